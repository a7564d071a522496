/-
  No cell of these rows narrows 'for every input' (looked for: loops, veiled, ifaces, maps, wideKeys, modest, calm, conditions, laid).
  DERIVED. THE GIVEN ROWS OF THIS SEAT. 11 by the template 'for every input the law returns true; each argument reads behind the call as it read before'; 0 by the template 'total and deterministic' (their statements: YtomcmfbpmkklmaaGreatTotals.lean).
  GIVEN WITH THE SEED: the statements are not yours to turn. If you find one false, say at which input.
  Laid BY PROGRAM, IN A SANDBOX (cutbox-rows.mjs): the forced cells as the released guide's own fill.sh prints them over the translation eebaea9dbbb4f3b6… (all of the seat's roots in one cut). By AI agents, Wed Nov 11 2026. No macro, syntax, notation, axiom, sorry.
-/
import Derived.Test.YtomcmfbpmkklmaaGreatChecked
import GoSem.Claim
import GoSem.ClaimJoined
import GoSem.ClaimMapViews
import Derived.JoinedTies
import Derived.KernelRfl
namespace Go.Proofs.YtomcmfbpmkklmaaGreat
/- THE CELL 'sum', in the pinned program and in every row, IS THE sha256 OF THE DUMP (.gsa) THAT YtomcmfbpmkklmaaGreatProg.lean LOADS. Nothing in Lean hashes anything: it is a label: what it is worth is what the hold of that sum in a sandbox is worth. -/
noncomputable def Tryz.pinned : Pinned := { name := "ytomcmfbpmkklmaagreat", sum := "eebaea9dbbb4f3b6a25f7889259a068e55a3494111a5de730da7b84ca31d2a81", checked := Tryz.checked }
namespace Rows
def none {H : Type} : Left H := { results := [], args := [] }

/-- 'spinnakerlaw16.TrailTo': WHATEVER THE INPUT: true; the input reads as it did. -/
def trailToSpec : ChangeSpec := { name := "trailTo", fn := fun _ => fun
  | [d1, d2] => { results := [.lit (.bool true)], args := [d1, d2] }
  | _ => none }
def trailToRow : OpenClaim := { program := "ytomcmfbpmkklmaagreat", sum := "eebaea9dbbb4f3b6a25f7889259a068e55a3494111a5de730da7b84ca31d2a81", func := "spinnaker/spinnakerlaw16.TrailTo", spec := "trailTo", unfollowed := true, recurses := true, apart := false }
def TrailToSaid : Prop := trailToRow.holds Tryz.pinned (OpenSpec.ofChange trailToSpec)

/-- ITS FALSE NEIGHBOUR: 'it returns false'. Refute it at one input. -/
def trailToWrong : ChangeSpec := { name := "trailTo", fn := fun _ => fun
  | [d1, d2] => { results := [.lit (.bool false)], args := [d1, d2] }
  | _ => none }
def TrailToWrongFalsely : Prop := trailToRow.holds Tryz.pinned (OpenSpec.ofChange trailToWrong)

/-- 'spinnakerlaw16.TrailInside': WHATEVER THE INPUT: true; the input reads as it did. -/
def trailInsideSpec : ChangeSpec := { name := "trailInside", fn := fun _ => fun
  | [d1, d2] => { results := [.lit (.bool true)], args := [d1, d2] }
  | _ => none }
def trailInsideRow : OpenClaim := { program := "ytomcmfbpmkklmaagreat", sum := "eebaea9dbbb4f3b6a25f7889259a068e55a3494111a5de730da7b84ca31d2a81", func := "spinnaker/spinnakerlaw16.TrailInside", spec := "trailInside", unfollowed := true, recurses := true, apart := false }
def TrailInsideSaid : Prop := trailInsideRow.holds Tryz.pinned (OpenSpec.ofChange trailInsideSpec)

/-- ITS FALSE NEIGHBOUR: 'it returns false'. Refute it at one input. -/
def trailInsideWrong : ChangeSpec := { name := "trailInside", fn := fun _ => fun
  | [d1, d2] => { results := [.lit (.bool false)], args := [d1, d2] }
  | _ => none }
def TrailInsideWrongFalsely : Prop := trailInsideRow.holds Tryz.pinned (OpenSpec.ofChange trailInsideWrong)

/-- 'spinnakerlaw16.TrailShort': WHATEVER THE INPUT: true; the input reads as it did. -/
def trailShortSpec : ChangeSpec := { name := "trailShort", fn := fun _ => fun
  | [d] => { results := [.lit (.bool true)], args := [d] }
  | _ => none }
def trailShortRow : OpenClaim := { program := "ytomcmfbpmkklmaagreat", sum := "eebaea9dbbb4f3b6a25f7889259a068e55a3494111a5de730da7b84ca31d2a81", func := "spinnaker/spinnakerlaw16.TrailShort", spec := "trailShort", unfollowed := true, recurses := true, apart := false }
def TrailShortSaid : Prop := trailShortRow.holds Tryz.pinned (OpenSpec.ofChange trailShortSpec)

/-- ITS FALSE NEIGHBOUR: 'it returns false'. Refute it at one input. -/
def trailShortWrong : ChangeSpec := { name := "trailShort", fn := fun _ => fun
  | [d] => { results := [.lit (.bool false)], args := [d] }
  | _ => none }
def TrailShortWrongFalsely : Prop := trailShortRow.holds Tryz.pinned (OpenSpec.ofChange trailShortWrong)

/-- 'spinnakerlaw16.TrailText': WHATEVER THE INPUT: true; the input reads as it did. -/
def trailTextSpec : ChangeSpec := { name := "trailText", fn := fun _ => fun
  | [d1, d2, d3] => { results := [.lit (.bool true)], args := [d1, d2, d3] }
  | _ => none }
def trailTextRow : OpenClaim := { program := "ytomcmfbpmkklmaagreat", sum := "eebaea9dbbb4f3b6a25f7889259a068e55a3494111a5de730da7b84ca31d2a81", func := "spinnaker/spinnakerlaw16.TrailText", spec := "trailText", unfollowed := true, recurses := true, apart := false }
def TrailTextSaid : Prop := trailTextRow.holds Tryz.pinned (OpenSpec.ofChange trailTextSpec)

/-- ITS FALSE NEIGHBOUR: 'it returns false'. Refute it at one input. -/
def trailTextWrong : ChangeSpec := { name := "trailText", fn := fun _ => fun
  | [d1, d2, d3] => { results := [.lit (.bool false)], args := [d1, d2, d3] }
  | _ => none }
def TrailTextWrongFalsely : Prop := trailTextRow.holds Tryz.pinned (OpenSpec.ofChange trailTextWrong)

/-- 'spinnakerlaw15.ExploreAll': WHATEVER THE INPUT: true; the input reads as it did. -/
def exploreAllSpec : ChangeSpec := { name := "exploreAll", fn := fun _ => fun
  | [d] => { results := [.lit (.bool true)], args := [d] }
  | _ => none }
def exploreAllRow : OpenClaim := { program := "ytomcmfbpmkklmaagreat", sum := "eebaea9dbbb4f3b6a25f7889259a068e55a3494111a5de730da7b84ca31d2a81", func := "spinnaker/spinnakerlaw15.ExploreAll", spec := "exploreAll", unfollowed := true, recurses := true, apart := false }
def ExploreAllSaid : Prop := exploreAllRow.holds Tryz.pinned (OpenSpec.ofChange exploreAllSpec)

/-- ITS FALSE NEIGHBOUR: 'it returns false'. Refute it at one input. -/
def exploreAllWrong : ChangeSpec := { name := "exploreAll", fn := fun _ => fun
  | [d] => { results := [.lit (.bool false)], args := [d] }
  | _ => none }
def ExploreAllWrongFalsely : Prop := exploreAllRow.holds Tryz.pinned (OpenSpec.ofChange exploreAllWrong)

/-- 'spinnakerlaw15.ExploreTells': WHATEVER THE INPUT: true; the input reads as it did. -/
def exploreTellsSpec : ChangeSpec := { name := "exploreTells", fn := fun _ => fun
  | [d1, d2] => { results := [.lit (.bool true)], args := [d1, d2] }
  | _ => none }
def exploreTellsRow : OpenClaim := { program := "ytomcmfbpmkklmaagreat", sum := "eebaea9dbbb4f3b6a25f7889259a068e55a3494111a5de730da7b84ca31d2a81", func := "spinnaker/spinnakerlaw15.ExploreTells", spec := "exploreTells", unfollowed := true, recurses := true, apart := false }
def ExploreTellsSaid : Prop := exploreTellsRow.holds Tryz.pinned (OpenSpec.ofChange exploreTellsSpec)

/-- ITS FALSE NEIGHBOUR: 'it returns false'. Refute it at one input. -/
def exploreTellsWrong : ChangeSpec := { name := "exploreTells", fn := fun _ => fun
  | [d1, d2] => { results := [.lit (.bool false)], args := [d1, d2] }
  | _ => none }
def ExploreTellsWrongFalsely : Prop := exploreTellsRow.holds Tryz.pinned (OpenSpec.ofChange exploreTellsWrong)

/-- 'spinnakerlaw15.ExploreClosed': WHATEVER THE INPUT: true; the input reads as it did. -/
def exploreClosedSpec : ChangeSpec := { name := "exploreClosed", fn := fun _ => fun
  | [d] => { results := [.lit (.bool true)], args := [d] }
  | _ => none }
def exploreClosedRow : OpenClaim := { program := "ytomcmfbpmkklmaagreat", sum := "eebaea9dbbb4f3b6a25f7889259a068e55a3494111a5de730da7b84ca31d2a81", func := "spinnaker/spinnakerlaw15.ExploreClosed", spec := "exploreClosed", unfollowed := true, recurses := true, apart := false }
def ExploreClosedSaid : Prop := exploreClosedRow.holds Tryz.pinned (OpenSpec.ofChange exploreClosedSpec)

/-- ITS FALSE NEIGHBOUR: 'it returns false'. Refute it at one input. -/
def exploreClosedWrong : ChangeSpec := { name := "exploreClosed", fn := fun _ => fun
  | [d] => { results := [.lit (.bool false)], args := [d] }
  | _ => none }
def ExploreClosedWrongFalsely : Prop := exploreClosedRow.holds Tryz.pinned (OpenSpec.ofChange exploreClosedWrong)

/-- 'spinnakerlaw15.ExploreBudget': WHATEVER THE INPUT: true; the input reads as it did. -/
def exploreBudgetSpec : ChangeSpec := { name := "exploreBudget", fn := fun _ => fun
  | [d] => { results := [.lit (.bool true)], args := [d] }
  | _ => none }
def exploreBudgetRow : OpenClaim := { program := "ytomcmfbpmkklmaagreat", sum := "eebaea9dbbb4f3b6a25f7889259a068e55a3494111a5de730da7b84ca31d2a81", func := "spinnaker/spinnakerlaw15.ExploreBudget", spec := "exploreBudget", unfollowed := true, recurses := true, apart := false }
def ExploreBudgetSaid : Prop := exploreBudgetRow.holds Tryz.pinned (OpenSpec.ofChange exploreBudgetSpec)

/-- ITS FALSE NEIGHBOUR: 'it returns false'. Refute it at one input. -/
def exploreBudgetWrong : ChangeSpec := { name := "exploreBudget", fn := fun _ => fun
  | [d] => { results := [.lit (.bool false)], args := [d] }
  | _ => none }
def ExploreBudgetWrongFalsely : Prop := exploreBudgetRow.holds Tryz.pinned (OpenSpec.ofChange exploreBudgetWrong)

/-- 'spinnakerlaw15.ExploreModels': WHATEVER THE INPUT: true; the input reads as it did. -/
def exploreModelsSpec : ChangeSpec := { name := "exploreModels", fn := fun _ => fun
  | [d] => { results := [.lit (.bool true)], args := [d] }
  | _ => none }
def exploreModelsRow : OpenClaim := { program := "ytomcmfbpmkklmaagreat", sum := "eebaea9dbbb4f3b6a25f7889259a068e55a3494111a5de730da7b84ca31d2a81", func := "spinnaker/spinnakerlaw15.ExploreModels", spec := "exploreModels", unfollowed := true, recurses := true, apart := false }
def ExploreModelsSaid : Prop := exploreModelsRow.holds Tryz.pinned (OpenSpec.ofChange exploreModelsSpec)

/-- ITS FALSE NEIGHBOUR: 'it returns false'. Refute it at one input. -/
def exploreModelsWrong : ChangeSpec := { name := "exploreModels", fn := fun _ => fun
  | [d] => { results := [.lit (.bool false)], args := [d] }
  | _ => none }
def ExploreModelsWrongFalsely : Prop := exploreModelsRow.holds Tryz.pinned (OpenSpec.ofChange exploreModelsWrong)

/-- 'spinnakerlaw29.StoryTells': WHATEVER THE INPUT: true; the input reads as it did. -/
def storyTellsSpec : ChangeSpec := { name := "storyTells", fn := fun _ => fun
  | [d1, d2] => { results := [.lit (.bool true)], args := [d1, d2] }
  | _ => none }
def storyTellsRow : OpenClaim := { program := "ytomcmfbpmkklmaagreat", sum := "eebaea9dbbb4f3b6a25f7889259a068e55a3494111a5de730da7b84ca31d2a81", func := "spinnaker/spinnakerlaw29.StoryTells", spec := "storyTells", unfollowed := true, recurses := true, apart := false }
def StoryTellsSaid : Prop := storyTellsRow.holds Tryz.pinned (OpenSpec.ofChange storyTellsSpec)

/-- ITS FALSE NEIGHBOUR: 'it returns false'. Refute it at one input. -/
def storyTellsWrong : ChangeSpec := { name := "storyTells", fn := fun _ => fun
  | [d1, d2] => { results := [.lit (.bool false)], args := [d1, d2] }
  | _ => none }
def StoryTellsWrongFalsely : Prop := storyTellsRow.holds Tryz.pinned (OpenSpec.ofChange storyTellsWrong)

/-- 'spinnakerlaw29.StorySteps': WHATEVER THE INPUT: true; the input reads as it did. -/
def storyStepsSpec : ChangeSpec := { name := "storySteps", fn := fun _ => fun
  | [d1, d2] => { results := [.lit (.bool true)], args := [d1, d2] }
  | _ => none }
def storyStepsRow : OpenClaim := { program := "ytomcmfbpmkklmaagreat", sum := "eebaea9dbbb4f3b6a25f7889259a068e55a3494111a5de730da7b84ca31d2a81", func := "spinnaker/spinnakerlaw29.StorySteps", spec := "storySteps", unfollowed := true, recurses := true, apart := false }
def StoryStepsSaid : Prop := storyStepsRow.holds Tryz.pinned (OpenSpec.ofChange storyStepsSpec)

/-- ITS FALSE NEIGHBOUR: 'it returns false'. Refute it at one input. -/
def storyStepsWrong : ChangeSpec := { name := "storySteps", fn := fun _ => fun
  | [d1, d2] => { results := [.lit (.bool false)], args := [d1, d2] }
  | _ => none }
def StoryStepsWrongFalsely : Prop := storyStepsRow.holds Tryz.pinned (OpenSpec.ofChange storyStepsWrong)

/- THE SECOND FORM. 'bulk': how many values and letters a reading holds, each counted each time it is reached (what is shared counts as often as it is met; a slice's spare places count too). A statement '..UptoSaid' is the law's where the arguments, and the package variables that the reading takes, are together of bulk at most 1048576: NARROWER than '..Said'. Prove '..Said' where nothing that the law and all that it calls make is longer than what came in: it says more and counts as full. Else prove '..UptoSaid'. A law counts once. -/
mutual
def uptoBulk {H : Type} : DataW H → Nat
  | .lit (.string bytes) => bytes.length + 1
  | .lit _ => 1
  | .nil => 1
  | .ptr d => uptoBulk d + 1
  | .slice elems spare => uptoBulkAll elems + uptoBulkAll spare + 1
  | .agg parts => uptoBulkAll parts + 1
  | .iface _ d => uptoBulk d + 1
  | .map entries => uptoBulkEntries entries + 1
  | .held _ => 1
def uptoBulkAll {H : Type} : List (DataW H) → Nat
  | [] => 0
  | d :: r => uptoBulk d + uptoBulkAll r
def uptoBulkEntries {H : Type} : List (Lit × DataW H) → Nat
  | [] => 0
  | x :: r => uptoBulkEntry x + uptoBulkEntries r
def uptoBulkEntry {H : Type} : Lit × DataW H → Nat
  | (.string bytes, d) => bytes.length + uptoBulk d + 1
  | (_, d) => uptoBulk d + 1
 end
def uptoSmall : (H : Type) → List (DataW H) → Bool := fun _ ds => decide (uptoBulkAll ds ≤ 1048576)
def OpenSpec.upto (s : _root_.Go.ChangeSpec) : _root_.Go.OpenSpec := { _root_.Go.OpenSpec.ofChange s with cond := some uptoSmall }

/-- 'spinnakerlaw16.TrailTo', WHERE WHAT IT READS IS OF BULK AT MOST 1048576: true; the input reads as it did. -/
def trailToUptoRow : OpenClaim := { program := "ytomcmfbpmkklmaagreat", sum := "eebaea9dbbb4f3b6a25f7889259a068e55a3494111a5de730da7b84ca31d2a81", func := "spinnaker/spinnakerlaw16.TrailTo", spec := "trailTo", unfollowed := true, recurses := true, apart := false, narrowed := true }
def TrailToUptoSaid : Prop := trailToUptoRow.holds Tryz.pinned (OpenSpec.upto trailToSpec)

/-- 'spinnakerlaw16.TrailInside', WHERE WHAT IT READS IS OF BULK AT MOST 1048576: true; the input reads as it did. -/
def trailInsideUptoRow : OpenClaim := { program := "ytomcmfbpmkklmaagreat", sum := "eebaea9dbbb4f3b6a25f7889259a068e55a3494111a5de730da7b84ca31d2a81", func := "spinnaker/spinnakerlaw16.TrailInside", spec := "trailInside", unfollowed := true, recurses := true, apart := false, narrowed := true }
def TrailInsideUptoSaid : Prop := trailInsideUptoRow.holds Tryz.pinned (OpenSpec.upto trailInsideSpec)

/-- 'spinnakerlaw16.TrailShort', WHERE WHAT IT READS IS OF BULK AT MOST 1048576: true; the input reads as it did. -/
def trailShortUptoRow : OpenClaim := { program := "ytomcmfbpmkklmaagreat", sum := "eebaea9dbbb4f3b6a25f7889259a068e55a3494111a5de730da7b84ca31d2a81", func := "spinnaker/spinnakerlaw16.TrailShort", spec := "trailShort", unfollowed := true, recurses := true, apart := false, narrowed := true }
def TrailShortUptoSaid : Prop := trailShortUptoRow.holds Tryz.pinned (OpenSpec.upto trailShortSpec)

/-- 'spinnakerlaw16.TrailText', WHERE WHAT IT READS IS OF BULK AT MOST 1048576: true; the input reads as it did. -/
def trailTextUptoRow : OpenClaim := { program := "ytomcmfbpmkklmaagreat", sum := "eebaea9dbbb4f3b6a25f7889259a068e55a3494111a5de730da7b84ca31d2a81", func := "spinnaker/spinnakerlaw16.TrailText", spec := "trailText", unfollowed := true, recurses := true, apart := false, narrowed := true }
def TrailTextUptoSaid : Prop := trailTextUptoRow.holds Tryz.pinned (OpenSpec.upto trailTextSpec)

/-- 'spinnakerlaw15.ExploreAll', WHERE WHAT IT READS IS OF BULK AT MOST 1048576: true; the input reads as it did. -/
def exploreAllUptoRow : OpenClaim := { program := "ytomcmfbpmkklmaagreat", sum := "eebaea9dbbb4f3b6a25f7889259a068e55a3494111a5de730da7b84ca31d2a81", func := "spinnaker/spinnakerlaw15.ExploreAll", spec := "exploreAll", unfollowed := true, recurses := true, apart := false, narrowed := true }
def ExploreAllUptoSaid : Prop := exploreAllUptoRow.holds Tryz.pinned (OpenSpec.upto exploreAllSpec)

/-- 'spinnakerlaw15.ExploreTells', WHERE WHAT IT READS IS OF BULK AT MOST 1048576: true; the input reads as it did. -/
def exploreTellsUptoRow : OpenClaim := { program := "ytomcmfbpmkklmaagreat", sum := "eebaea9dbbb4f3b6a25f7889259a068e55a3494111a5de730da7b84ca31d2a81", func := "spinnaker/spinnakerlaw15.ExploreTells", spec := "exploreTells", unfollowed := true, recurses := true, apart := false, narrowed := true }
def ExploreTellsUptoSaid : Prop := exploreTellsUptoRow.holds Tryz.pinned (OpenSpec.upto exploreTellsSpec)

/-- 'spinnakerlaw15.ExploreClosed', WHERE WHAT IT READS IS OF BULK AT MOST 1048576: true; the input reads as it did. -/
def exploreClosedUptoRow : OpenClaim := { program := "ytomcmfbpmkklmaagreat", sum := "eebaea9dbbb4f3b6a25f7889259a068e55a3494111a5de730da7b84ca31d2a81", func := "spinnaker/spinnakerlaw15.ExploreClosed", spec := "exploreClosed", unfollowed := true, recurses := true, apart := false, narrowed := true }
def ExploreClosedUptoSaid : Prop := exploreClosedUptoRow.holds Tryz.pinned (OpenSpec.upto exploreClosedSpec)

/-- 'spinnakerlaw15.ExploreBudget', WHERE WHAT IT READS IS OF BULK AT MOST 1048576: true; the input reads as it did. -/
def exploreBudgetUptoRow : OpenClaim := { program := "ytomcmfbpmkklmaagreat", sum := "eebaea9dbbb4f3b6a25f7889259a068e55a3494111a5de730da7b84ca31d2a81", func := "spinnaker/spinnakerlaw15.ExploreBudget", spec := "exploreBudget", unfollowed := true, recurses := true, apart := false, narrowed := true }
def ExploreBudgetUptoSaid : Prop := exploreBudgetUptoRow.holds Tryz.pinned (OpenSpec.upto exploreBudgetSpec)

/-- 'spinnakerlaw15.ExploreModels', WHERE WHAT IT READS IS OF BULK AT MOST 1048576: true; the input reads as it did. -/
def exploreModelsUptoRow : OpenClaim := { program := "ytomcmfbpmkklmaagreat", sum := "eebaea9dbbb4f3b6a25f7889259a068e55a3494111a5de730da7b84ca31d2a81", func := "spinnaker/spinnakerlaw15.ExploreModels", spec := "exploreModels", unfollowed := true, recurses := true, apart := false, narrowed := true }
def ExploreModelsUptoSaid : Prop := exploreModelsUptoRow.holds Tryz.pinned (OpenSpec.upto exploreModelsSpec)

/-- 'spinnakerlaw29.StoryTells', WHERE WHAT IT READS IS OF BULK AT MOST 1048576: true; the input reads as it did. -/
def storyTellsUptoRow : OpenClaim := { program := "ytomcmfbpmkklmaagreat", sum := "eebaea9dbbb4f3b6a25f7889259a068e55a3494111a5de730da7b84ca31d2a81", func := "spinnaker/spinnakerlaw29.StoryTells", spec := "storyTells", unfollowed := true, recurses := true, apart := false, narrowed := true }
def StoryTellsUptoSaid : Prop := storyTellsUptoRow.holds Tryz.pinned (OpenSpec.upto storyTellsSpec)

/-- 'spinnakerlaw29.StorySteps', WHERE WHAT IT READS IS OF BULK AT MOST 1048576: true; the input reads as it did. -/
def storyStepsUptoRow : OpenClaim := { program := "ytomcmfbpmkklmaagreat", sum := "eebaea9dbbb4f3b6a25f7889259a068e55a3494111a5de730da7b84ca31d2a81", func := "spinnaker/spinnakerlaw29.StorySteps", spec := "storySteps", unfollowed := true, recurses := true, apart := false, narrowed := true }
def StoryStepsUptoSaid : Prop := storyStepsUptoRow.holds Tryz.pinned (OpenSpec.upto storyStepsSpec)

end Rows
end Go.Proofs.YtomcmfbpmkklmaaGreat
