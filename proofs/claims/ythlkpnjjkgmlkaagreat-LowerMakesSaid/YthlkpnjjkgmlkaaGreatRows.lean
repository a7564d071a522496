/-
  No cell of these rows narrows 'for every input' (looked for: loops, veiled, ifaces, maps, wideKeys, modest, calm, conditions, laid).
  DERIVED. THE GIVEN ROWS OF THIS SEAT. 9 by the template 'for every input the law returns true; each argument reads behind the call as it read before'; 0 by the template 'total and deterministic' (their statements: YthlkpnjjkgmlkaaGreatTotals.lean).
  GIVEN WITH THE SEED: the statements are not yours to turn. If you find one false, say at which input.
  Laid BY PROGRAM, IN A SANDBOX (cutbox-rows.mjs): the forced cells as the released guide's own fill.sh prints them over the translation c728d57e6b87c0ca… (all of the seat's roots in one cut). By AI agents, Wed Nov 11 2026. No macro, syntax, notation, axiom, sorry.
-/
import Derived.Test.YthlkpnjjkgmlkaaGreatChecked
import GoSem.Claim
import GoSem.ClaimJoined
import GoSem.ClaimMapViews
import Derived.JoinedTies
import Derived.KernelRfl
namespace Go.Proofs.YthlkpnjjkgmlkaaGreat
/- THE CELL 'sum', in the pinned program and in every row, IS THE sha256 OF THE DUMP (.gsa) THAT YthlkpnjjkgmlkaaGreatProg.lean LOADS. Nothing in Lean hashes anything: it is a label: what it is worth is what the hold of that sum in a sandbox is worth. -/
noncomputable def Tryz.pinned : Pinned := { name := "ythlkpnjjkgmlkaagreat", sum := "c728d57e6b87c0cac3256ca302161fc988b259cbada1b3f78b432e3bd7a667c0", checked := Tryz.checked }
namespace Rows
def none {H : Type} : Left H := { results := [], args := [] }

/-- 'spinnakerlaw07.LowerMakes': WHATEVER THE INPUT: true; the input reads as it did. -/
def lowerMakesSpec : ChangeSpec := { name := "lowerMakes", fn := fun _ => fun
  | [d] => { results := [.lit (.bool true)], args := [d] }
  | _ => none }
def lowerMakesRow : OpenClaim := { program := "ythlkpnjjkgmlkaagreat", sum := "c728d57e6b87c0cac3256ca302161fc988b259cbada1b3f78b432e3bd7a667c0", func := "spinnaker/spinnakerlaw07.LowerMakes", spec := "lowerMakes", unfollowed := true, recurses := true, apart := false }
def LowerMakesSaid : Prop := lowerMakesRow.holds Tryz.pinned (OpenSpec.ofChange lowerMakesSpec)

/-- ITS FALSE NEIGHBOUR: 'it returns false'. Refute it at one input. -/
def lowerMakesWrong : ChangeSpec := { name := "lowerMakes", fn := fun _ => fun
  | [d] => { results := [.lit (.bool false)], args := [d] }
  | _ => none }
def LowerMakesWrongFalsely : Prop := lowerMakesRow.holds Tryz.pinned (OpenSpec.ofChange lowerMakesWrong)

/-- 'spinnakerlaw07.LowerGood': WHATEVER THE INPUT: true; the input reads as it did. -/
def lowerGoodSpec : ChangeSpec := { name := "lowerGood", fn := fun _ => fun
  | [d] => { results := [.lit (.bool true)], args := [d] }
  | _ => none }
def lowerGoodRow : OpenClaim := { program := "ythlkpnjjkgmlkaagreat", sum := "c728d57e6b87c0cac3256ca302161fc988b259cbada1b3f78b432e3bd7a667c0", func := "spinnaker/spinnakerlaw07.LowerGood", spec := "lowerGood", unfollowed := true, recurses := true, apart := false }
def LowerGoodSaid : Prop := lowerGoodRow.holds Tryz.pinned (OpenSpec.ofChange lowerGoodSpec)

/-- ITS FALSE NEIGHBOUR: 'it returns false'. Refute it at one input. -/
def lowerGoodWrong : ChangeSpec := { name := "lowerGood", fn := fun _ => fun
  | [d] => { results := [.lit (.bool false)], args := [d] }
  | _ => none }
def LowerGoodWrongFalsely : Prop := lowerGoodRow.holds Tryz.pinned (OpenSpec.ofChange lowerGoodWrong)

/-- 'spinnakerlaw07.LowerSkips': WHATEVER THE INPUT: true; the input reads as it did. -/
def lowerSkipsSpec : ChangeSpec := { name := "lowerSkips", fn := fun _ => fun
  | [d] => { results := [.lit (.bool true)], args := [d] }
  | _ => none }
def lowerSkipsRow : OpenClaim := { program := "ythlkpnjjkgmlkaagreat", sum := "c728d57e6b87c0cac3256ca302161fc988b259cbada1b3f78b432e3bd7a667c0", func := "spinnaker/spinnakerlaw07.LowerSkips", spec := "lowerSkips", unfollowed := true, recurses := true, apart := false }
def LowerSkipsSaid : Prop := lowerSkipsRow.holds Tryz.pinned (OpenSpec.ofChange lowerSkipsSpec)

/-- ITS FALSE NEIGHBOUR: 'it returns false'. Refute it at one input. -/
def lowerSkipsWrong : ChangeSpec := { name := "lowerSkips", fn := fun _ => fun
  | [d] => { results := [.lit (.bool false)], args := [d] }
  | _ => none }
def LowerSkipsWrongFalsely : Prop := lowerSkipsRow.holds Tryz.pinned (OpenSpec.ofChange lowerSkipsWrong)

/-- 'spinnakerlaw21.ClaimAll': WHATEVER THE INPUT: true; the input reads as it did. -/
def claimAllSpec : ChangeSpec := { name := "claimAll", fn := fun _ => fun
  | [d] => { results := [.lit (.bool true)], args := [d] }
  | _ => none }
def claimAllRow : OpenClaim := { program := "ythlkpnjjkgmlkaagreat", sum := "c728d57e6b87c0cac3256ca302161fc988b259cbada1b3f78b432e3bd7a667c0", func := "spinnaker/spinnakerlaw21.ClaimAll", spec := "claimAll", unfollowed := true, recurses := true, apart := false }
def ClaimAllSaid : Prop := claimAllRow.holds Tryz.pinned (OpenSpec.ofChange claimAllSpec)

/-- ITS FALSE NEIGHBOUR: 'it returns false'. Refute it at one input. -/
def claimAllWrong : ChangeSpec := { name := "claimAll", fn := fun _ => fun
  | [d] => { results := [.lit (.bool false)], args := [d] }
  | _ => none }
def ClaimAllWrongFalsely : Prop := claimAllRow.holds Tryz.pinned (OpenSpec.ofChange claimAllWrong)

/-- 'spinnakerlaw21.ClaimTells': WHATEVER THE INPUT: true; the input reads as it did. -/
def claimTellsSpec : ChangeSpec := { name := "claimTells", fn := fun _ => fun
  | [d1, d2] => { results := [.lit (.bool true)], args := [d1, d2] }
  | _ => none }
def claimTellsRow : OpenClaim := { program := "ythlkpnjjkgmlkaagreat", sum := "c728d57e6b87c0cac3256ca302161fc988b259cbada1b3f78b432e3bd7a667c0", func := "spinnaker/spinnakerlaw21.ClaimTells", spec := "claimTells", unfollowed := true, recurses := true, apart := false }
def ClaimTellsSaid : Prop := claimTellsRow.holds Tryz.pinned (OpenSpec.ofChange claimTellsSpec)

/-- ITS FALSE NEIGHBOUR: 'it returns false'. Refute it at one input. -/
def claimTellsWrong : ChangeSpec := { name := "claimTells", fn := fun _ => fun
  | [d1, d2] => { results := [.lit (.bool false)], args := [d1, d2] }
  | _ => none }
def ClaimTellsWrongFalsely : Prop := claimTellsRow.holds Tryz.pinned (OpenSpec.ofChange claimTellsWrong)

/-- 'spinnakerlaw21.ClaimShows': WHATEVER THE INPUT: true; the input reads as it did. -/
def claimShowsSpec : ChangeSpec := { name := "claimShows", fn := fun _ => fun
  | [d] => { results := [.lit (.bool true)], args := [d] }
  | _ => none }
def claimShowsRow : OpenClaim := { program := "ythlkpnjjkgmlkaagreat", sum := "c728d57e6b87c0cac3256ca302161fc988b259cbada1b3f78b432e3bd7a667c0", func := "spinnaker/spinnakerlaw21.ClaimShows", spec := "claimShows", unfollowed := true, recurses := true, apart := false }
def ClaimShowsSaid : Prop := claimShowsRow.holds Tryz.pinned (OpenSpec.ofChange claimShowsSpec)

/-- ITS FALSE NEIGHBOUR: 'it returns false'. Refute it at one input. -/
def claimShowsWrong : ChangeSpec := { name := "claimShows", fn := fun _ => fun
  | [d] => { results := [.lit (.bool false)], args := [d] }
  | _ => none }
def ClaimShowsWrongFalsely : Prop := claimShowsRow.holds Tryz.pinned (OpenSpec.ofChange claimShowsWrong)

/-- 'spinnakerlaw21.ClaimDuals': WHATEVER THE INPUT: true; the input reads as it did. -/
def claimDualsSpec : ChangeSpec := { name := "claimDuals", fn := fun _ => fun
  | [d1, d2] => { results := [.lit (.bool true)], args := [d1, d2] }
  | _ => none }
def claimDualsRow : OpenClaim := { program := "ythlkpnjjkgmlkaagreat", sum := "c728d57e6b87c0cac3256ca302161fc988b259cbada1b3f78b432e3bd7a667c0", func := "spinnaker/spinnakerlaw21.ClaimDuals", spec := "claimDuals", unfollowed := true, recurses := true, apart := false }
def ClaimDualsSaid : Prop := claimDualsRow.holds Tryz.pinned (OpenSpec.ofChange claimDualsSpec)

/-- ITS FALSE NEIGHBOUR: 'it returns false'. Refute it at one input. -/
def claimDualsWrong : ChangeSpec := { name := "claimDuals", fn := fun _ => fun
  | [d1, d2] => { results := [.lit (.bool false)], args := [d1, d2] }
  | _ => none }
def ClaimDualsWrongFalsely : Prop := claimDualsRow.holds Tryz.pinned (OpenSpec.ofChange claimDualsWrong)

/-- 'spinnakerlaw31.OutsLists': WHATEVER THE INPUT: true; the input reads as it did. -/
def outsListsSpec : ChangeSpec := { name := "outsLists", fn := fun _ => fun
  | [d1, d2] => { results := [.lit (.bool true)], args := [d1, d2] }
  | _ => none }
def outsListsRow : OpenClaim := { program := "ythlkpnjjkgmlkaagreat", sum := "c728d57e6b87c0cac3256ca302161fc988b259cbada1b3f78b432e3bd7a667c0", func := "spinnaker/spinnakerlaw31.OutsLists", spec := "outsLists", unfollowed := true, recurses := true, apart := false }
def OutsListsSaid : Prop := outsListsRow.holds Tryz.pinned (OpenSpec.ofChange outsListsSpec)

/-- ITS FALSE NEIGHBOUR: 'it returns false'. Refute it at one input. -/
def outsListsWrong : ChangeSpec := { name := "outsLists", fn := fun _ => fun
  | [d1, d2] => { results := [.lit (.bool false)], args := [d1, d2] }
  | _ => none }
def OutsListsWrongFalsely : Prop := outsListsRow.holds Tryz.pinned (OpenSpec.ofChange outsListsWrong)

/-- 'spinnakerlaw31.OutsSpace': WHATEVER THE INPUT: true; the input reads as it did. -/
def outsSpaceSpec : ChangeSpec := { name := "outsSpace", fn := fun _ => fun
  | [d] => { results := [.lit (.bool true)], args := [d] }
  | _ => none }
def outsSpaceRow : OpenClaim := { program := "ythlkpnjjkgmlkaagreat", sum := "c728d57e6b87c0cac3256ca302161fc988b259cbada1b3f78b432e3bd7a667c0", func := "spinnaker/spinnakerlaw31.OutsSpace", spec := "outsSpace", unfollowed := true, recurses := true, apart := false }
def OutsSpaceSaid : Prop := outsSpaceRow.holds Tryz.pinned (OpenSpec.ofChange outsSpaceSpec)

/-- ITS FALSE NEIGHBOUR: 'it returns false'. Refute it at one input. -/
def outsSpaceWrong : ChangeSpec := { name := "outsSpace", fn := fun _ => fun
  | [d] => { results := [.lit (.bool false)], args := [d] }
  | _ => none }
def OutsSpaceWrongFalsely : Prop := outsSpaceRow.holds Tryz.pinned (OpenSpec.ofChange outsSpaceWrong)

/- THE SECOND FORM. 'bulk': how many values and letters a reading holds, each counted each time it is reached (what is shared counts as often as it is met; a slice's spare places count too). A statement '..UptoSaid' is the law's where the arguments, and the package variables that the reading takes, are together of bulk at most 1048576: NARROWER than '..Said'. Prove '..Said' where nothing that the law and all that it calls make is longer than what came in: it says more and counts as full. Else prove '..UptoSaid'. A law counts once. -/
mutual
def uptoBulk {H : Type} : DataW H → Nat
  | .lit (.string bytes) => bytes.length + 1
  | .lit _ => 1
  | .nil => 1
  | .ptr d => uptoBulk d + 1
  | .slice elems spare => uptoBulkAll elems + uptoBulkAll spare + 1
  | .agg parts => uptoBulkAll parts + 1
  | .iface _ d => uptoBulk d + 1
  | .map entries => uptoBulkEntries entries + 1
  | .held _ => 1
def uptoBulkAll {H : Type} : List (DataW H) → Nat
  | [] => 0
  | d :: r => uptoBulk d + uptoBulkAll r
def uptoBulkEntries {H : Type} : List (Lit × DataW H) → Nat
  | [] => 0
  | x :: r => uptoBulkEntry x + uptoBulkEntries r
def uptoBulkEntry {H : Type} : Lit × DataW H → Nat
  | (.string bytes, d) => bytes.length + uptoBulk d + 1
  | (_, d) => uptoBulk d + 1
 end
def uptoSmall : (H : Type) → List (DataW H) → Bool := fun _ ds => decide (uptoBulkAll ds ≤ 1048576)
def OpenSpec.upto (s : _root_.Go.ChangeSpec) : _root_.Go.OpenSpec := { _root_.Go.OpenSpec.ofChange s with cond := some uptoSmall }

/-- 'spinnakerlaw07.LowerMakes', WHERE WHAT IT READS IS OF BULK AT MOST 1048576: true; the input reads as it did. -/
def lowerMakesUptoRow : OpenClaim := { program := "ythlkpnjjkgmlkaagreat", sum := "c728d57e6b87c0cac3256ca302161fc988b259cbada1b3f78b432e3bd7a667c0", func := "spinnaker/spinnakerlaw07.LowerMakes", spec := "lowerMakes", unfollowed := true, recurses := true, apart := false, narrowed := true }
def LowerMakesUptoSaid : Prop := lowerMakesUptoRow.holds Tryz.pinned (OpenSpec.upto lowerMakesSpec)

/-- 'spinnakerlaw07.LowerGood', WHERE WHAT IT READS IS OF BULK AT MOST 1048576: true; the input reads as it did. -/
def lowerGoodUptoRow : OpenClaim := { program := "ythlkpnjjkgmlkaagreat", sum := "c728d57e6b87c0cac3256ca302161fc988b259cbada1b3f78b432e3bd7a667c0", func := "spinnaker/spinnakerlaw07.LowerGood", spec := "lowerGood", unfollowed := true, recurses := true, apart := false, narrowed := true }
def LowerGoodUptoSaid : Prop := lowerGoodUptoRow.holds Tryz.pinned (OpenSpec.upto lowerGoodSpec)

/-- 'spinnakerlaw07.LowerSkips', WHERE WHAT IT READS IS OF BULK AT MOST 1048576: true; the input reads as it did. -/
def lowerSkipsUptoRow : OpenClaim := { program := "ythlkpnjjkgmlkaagreat", sum := "c728d57e6b87c0cac3256ca302161fc988b259cbada1b3f78b432e3bd7a667c0", func := "spinnaker/spinnakerlaw07.LowerSkips", spec := "lowerSkips", unfollowed := true, recurses := true, apart := false, narrowed := true }
def LowerSkipsUptoSaid : Prop := lowerSkipsUptoRow.holds Tryz.pinned (OpenSpec.upto lowerSkipsSpec)

/-- 'spinnakerlaw21.ClaimAll', WHERE WHAT IT READS IS OF BULK AT MOST 1048576: true; the input reads as it did. -/
def claimAllUptoRow : OpenClaim := { program := "ythlkpnjjkgmlkaagreat", sum := "c728d57e6b87c0cac3256ca302161fc988b259cbada1b3f78b432e3bd7a667c0", func := "spinnaker/spinnakerlaw21.ClaimAll", spec := "claimAll", unfollowed := true, recurses := true, apart := false, narrowed := true }
def ClaimAllUptoSaid : Prop := claimAllUptoRow.holds Tryz.pinned (OpenSpec.upto claimAllSpec)

/-- 'spinnakerlaw21.ClaimTells', WHERE WHAT IT READS IS OF BULK AT MOST 1048576: true; the input reads as it did. -/
def claimTellsUptoRow : OpenClaim := { program := "ythlkpnjjkgmlkaagreat", sum := "c728d57e6b87c0cac3256ca302161fc988b259cbada1b3f78b432e3bd7a667c0", func := "spinnaker/spinnakerlaw21.ClaimTells", spec := "claimTells", unfollowed := true, recurses := true, apart := false, narrowed := true }
def ClaimTellsUptoSaid : Prop := claimTellsUptoRow.holds Tryz.pinned (OpenSpec.upto claimTellsSpec)

/-- 'spinnakerlaw21.ClaimShows', WHERE WHAT IT READS IS OF BULK AT MOST 1048576: true; the input reads as it did. -/
def claimShowsUptoRow : OpenClaim := { program := "ythlkpnjjkgmlkaagreat", sum := "c728d57e6b87c0cac3256ca302161fc988b259cbada1b3f78b432e3bd7a667c0", func := "spinnaker/spinnakerlaw21.ClaimShows", spec := "claimShows", unfollowed := true, recurses := true, apart := false, narrowed := true }
def ClaimShowsUptoSaid : Prop := claimShowsUptoRow.holds Tryz.pinned (OpenSpec.upto claimShowsSpec)

/-- 'spinnakerlaw21.ClaimDuals', WHERE WHAT IT READS IS OF BULK AT MOST 1048576: true; the input reads as it did. -/
def claimDualsUptoRow : OpenClaim := { program := "ythlkpnjjkgmlkaagreat", sum := "c728d57e6b87c0cac3256ca302161fc988b259cbada1b3f78b432e3bd7a667c0", func := "spinnaker/spinnakerlaw21.ClaimDuals", spec := "claimDuals", unfollowed := true, recurses := true, apart := false, narrowed := true }
def ClaimDualsUptoSaid : Prop := claimDualsUptoRow.holds Tryz.pinned (OpenSpec.upto claimDualsSpec)

/-- 'spinnakerlaw31.OutsLists', WHERE WHAT IT READS IS OF BULK AT MOST 1048576: true; the input reads as it did. -/
def outsListsUptoRow : OpenClaim := { program := "ythlkpnjjkgmlkaagreat", sum := "c728d57e6b87c0cac3256ca302161fc988b259cbada1b3f78b432e3bd7a667c0", func := "spinnaker/spinnakerlaw31.OutsLists", spec := "outsLists", unfollowed := true, recurses := true, apart := false, narrowed := true }
def OutsListsUptoSaid : Prop := outsListsUptoRow.holds Tryz.pinned (OpenSpec.upto outsListsSpec)

/-- 'spinnakerlaw31.OutsSpace', WHERE WHAT IT READS IS OF BULK AT MOST 1048576: true; the input reads as it did. -/
def outsSpaceUptoRow : OpenClaim := { program := "ythlkpnjjkgmlkaagreat", sum := "c728d57e6b87c0cac3256ca302161fc988b259cbada1b3f78b432e3bd7a667c0", func := "spinnaker/spinnakerlaw31.OutsSpace", spec := "outsSpace", unfollowed := true, recurses := true, apart := false, narrowed := true }
def OutsSpaceUptoSaid : Prop := outsSpaceUptoRow.holds Tryz.pinned (OpenSpec.upto outsSpaceSpec)

end Rows
end Go.Proofs.YthlkpnjjkgmlkaaGreat
