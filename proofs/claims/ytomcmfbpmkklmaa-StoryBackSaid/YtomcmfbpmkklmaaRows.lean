/-
  No cell of these rows narrows 'for every input' (looked for: loops, veiled, ifaces, maps, wideKeys, modest, calm, conditions, laid).
  DERIVED. THE GIVEN ROWS OF THIS SEAT. 3 by the template 'for every input the law returns true; each argument reads behind the call as it read before'; 0 by the template 'total and deterministic' (their statements: YtomcmfbpmkklmaaTotals.lean).
  GIVEN WITH THE SEED: the statements are not yours to turn. If you find one false, say at which input.
  Laid BY PROGRAM, IN A SANDBOX (cutbox-rows.mjs): the forced cells as the released guide's own fill.sh prints them over the translation fb5f8460f3d7fd8c… (all of the seat's roots in one cut). By AI agents, Wed Nov 11 2026. No macro, syntax, notation, axiom, sorry.
-/
import Derived.Test.YtomcmfbpmkklmaaChecked
import GoSem.Claim
import GoSem.ClaimJoined
import GoSem.ClaimMapViews
import Derived.JoinedTies
import Derived.KernelRfl
namespace Go.Proofs.Ytomcmfbpmkklmaa
/- THE CELL 'sum', in the pinned program and in every row, IS THE sha256 OF THE DUMP (.gsa) THAT YtomcmfbpmkklmaaProg.lean LOADS. Nothing in Lean hashes anything: it is a label: what it is worth is what the hold of that sum in a sandbox is worth. -/
noncomputable def Try.pinned : Pinned := { name := "ytomcmfbpmkklmaa", sum := "fb5f8460f3d7fd8ce1e39b8f7cb5cb3c7a5c868c2ecff434667e17d6b65d9e29", checked := Try.checked }
namespace Rows
def none {H : Type} : Left H := { results := [], args := [] }

/-- 'spinnakerlaw29.StoryShows': WHATEVER THE INPUT: true; the input reads as it did. -/
def storyShowsSpec : ChangeSpec := { name := "storyShows", fn := fun _ => fun
  | [d1, d2] => { results := [.lit (.bool true)], args := [d1, d2] }
  | _ => none }
def storyShowsRow : OpenClaim := { program := "ytomcmfbpmkklmaa", sum := "fb5f8460f3d7fd8ce1e39b8f7cb5cb3c7a5c868c2ecff434667e17d6b65d9e29", func := "spinnaker/spinnakerlaw29.StoryShows", spec := "storyShows", unfollowed := true, recurses := true, apart := false }
def StoryShowsSaid : Prop := storyShowsRow.holds Try.pinned (OpenSpec.ofChange storyShowsSpec)

/-- ITS FALSE NEIGHBOUR: 'it returns false'. Refute it at one input. -/
def storyShowsWrong : ChangeSpec := { name := "storyShows", fn := fun _ => fun
  | [d1, d2] => { results := [.lit (.bool false)], args := [d1, d2] }
  | _ => none }
def StoryShowsWrongFalsely : Prop := storyShowsRow.holds Try.pinned (OpenSpec.ofChange storyShowsWrong)

/-- 'spinnakerlaw29.StoryParses': WHATEVER THE INPUT: true; the input reads as it did. -/
def storyParsesSpec : ChangeSpec := { name := "storyParses", fn := fun _ => fun
  | [d] => { results := [.lit (.bool true)], args := [d] }
  | _ => none }
def storyParsesRow : OpenClaim := { program := "ytomcmfbpmkklmaa", sum := "fb5f8460f3d7fd8ce1e39b8f7cb5cb3c7a5c868c2ecff434667e17d6b65d9e29", func := "spinnaker/spinnakerlaw29.StoryParses", spec := "storyParses", unfollowed := true, recurses := true, apart := false }
def StoryParsesSaid : Prop := storyParsesRow.holds Try.pinned (OpenSpec.ofChange storyParsesSpec)

/-- ITS FALSE NEIGHBOUR: 'it returns false'. Refute it at one input. -/
def storyParsesWrong : ChangeSpec := { name := "storyParses", fn := fun _ => fun
  | [d] => { results := [.lit (.bool false)], args := [d] }
  | _ => none }
def StoryParsesWrongFalsely : Prop := storyParsesRow.holds Try.pinned (OpenSpec.ofChange storyParsesWrong)

/-- 'spinnakerlaw29.StoryBack': WHATEVER THE INPUT: true; the input reads as it did. -/
def storyBackSpec : ChangeSpec := { name := "storyBack", fn := fun _ => fun
  | [d1, d2, d3] => { results := [.lit (.bool true)], args := [d1, d2, d3] }
  | _ => none }
def storyBackRow : OpenClaim := { program := "ytomcmfbpmkklmaa", sum := "fb5f8460f3d7fd8ce1e39b8f7cb5cb3c7a5c868c2ecff434667e17d6b65d9e29", func := "spinnaker/spinnakerlaw29.StoryBack", spec := "storyBack", unfollowed := true, recurses := true, apart := false }
def StoryBackSaid : Prop := storyBackRow.holds Try.pinned (OpenSpec.ofChange storyBackSpec)

/-- ITS FALSE NEIGHBOUR: 'it returns false'. Refute it at one input. -/
def storyBackWrong : ChangeSpec := { name := "storyBack", fn := fun _ => fun
  | [d1, d2, d3] => { results := [.lit (.bool false)], args := [d1, d2, d3] }
  | _ => none }
def StoryBackWrongFalsely : Prop := storyBackRow.holds Try.pinned (OpenSpec.ofChange storyBackWrong)

/- THE SECOND FORM. 'bulk': how many values and letters a reading holds, each counted each time it is reached (what is shared counts as often as it is met; a slice's spare places count too). A statement '..UptoSaid' is the law's where the arguments, and the package variables that the reading takes, are together of bulk at most 1048576: NARROWER than '..Said'. Prove '..Said' where nothing that the law and all that it calls make is longer than what came in: it says more and counts as full. Else prove '..UptoSaid'. A law counts once. -/
mutual
def uptoBulk {H : Type} : DataW H → Nat
  | .lit (.string bytes) => bytes.length + 1
  | .lit _ => 1
  | .nil => 1
  | .ptr d => uptoBulk d + 1
  | .slice elems spare => uptoBulkAll elems + uptoBulkAll spare + 1
  | .agg parts => uptoBulkAll parts + 1
  | .iface _ d => uptoBulk d + 1
  | .map entries => uptoBulkEntries entries + 1
  | .held _ => 1
def uptoBulkAll {H : Type} : List (DataW H) → Nat
  | [] => 0
  | d :: r => uptoBulk d + uptoBulkAll r
def uptoBulkEntries {H : Type} : List (Lit × DataW H) → Nat
  | [] => 0
  | x :: r => uptoBulkEntry x + uptoBulkEntries r
def uptoBulkEntry {H : Type} : Lit × DataW H → Nat
  | (.string bytes, d) => bytes.length + uptoBulk d + 1
  | (_, d) => uptoBulk d + 1
 end
def uptoSmall : (H : Type) → List (DataW H) → Bool := fun _ ds => decide (uptoBulkAll ds ≤ 1048576)
def OpenSpec.upto (s : _root_.Go.ChangeSpec) : _root_.Go.OpenSpec := { _root_.Go.OpenSpec.ofChange s with cond := some uptoSmall }

/-- 'spinnakerlaw29.StoryShows', WHERE WHAT IT READS IS OF BULK AT MOST 1048576: true; the input reads as it did. -/
def storyShowsUptoRow : OpenClaim := { program := "ytomcmfbpmkklmaa", sum := "fb5f8460f3d7fd8ce1e39b8f7cb5cb3c7a5c868c2ecff434667e17d6b65d9e29", func := "spinnaker/spinnakerlaw29.StoryShows", spec := "storyShows", unfollowed := true, recurses := true, apart := false, narrowed := true }
def StoryShowsUptoSaid : Prop := storyShowsUptoRow.holds Try.pinned (OpenSpec.upto storyShowsSpec)

/-- 'spinnakerlaw29.StoryParses', WHERE WHAT IT READS IS OF BULK AT MOST 1048576: true; the input reads as it did. -/
def storyParsesUptoRow : OpenClaim := { program := "ytomcmfbpmkklmaa", sum := "fb5f8460f3d7fd8ce1e39b8f7cb5cb3c7a5c868c2ecff434667e17d6b65d9e29", func := "spinnaker/spinnakerlaw29.StoryParses", spec := "storyParses", unfollowed := true, recurses := true, apart := false, narrowed := true }
def StoryParsesUptoSaid : Prop := storyParsesUptoRow.holds Try.pinned (OpenSpec.upto storyParsesSpec)

/-- 'spinnakerlaw29.StoryBack', WHERE WHAT IT READS IS OF BULK AT MOST 1048576: true; the input reads as it did. -/
def storyBackUptoRow : OpenClaim := { program := "ytomcmfbpmkklmaa", sum := "fb5f8460f3d7fd8ce1e39b8f7cb5cb3c7a5c868c2ecff434667e17d6b65d9e29", func := "spinnaker/spinnakerlaw29.StoryBack", spec := "storyBack", unfollowed := true, recurses := true, apart := false, narrowed := true }
def StoryBackUptoSaid : Prop := storyBackUptoRow.holds Try.pinned (OpenSpec.upto storyBackSpec)

end Rows
end Go.Proofs.Ytomcmfbpmkklmaa
