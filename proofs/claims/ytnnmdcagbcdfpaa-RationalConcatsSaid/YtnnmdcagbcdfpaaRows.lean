/-
  No cell of these rows narrows 'for every input' (looked for: loops, veiled, ifaces, maps, wideKeys, modest, calm, conditions, laid).
  DERIVED. THE GIVEN ROWS OF THIS SEAT. 12 by the template 'for every input the law returns true; each argument reads behind the call as it read before'; 0 by the template 'total and deterministic' (their statements: YtnnmdcagbcdfpaaTotals.lean).
  GIVEN WITH THE SEED: the statements are not yours to turn. If you find one false, say at which input.
  Laid BY PROGRAM, IN A SANDBOX (cutbox-rows.mjs): the forced cells as the released guide's own fill.sh prints them over the translation 1e174d2bdb8908f1… (all of the seat's roots in one cut). By AI agents, Wed Nov 11 2026. No macro, syntax, notation, axiom, sorry.
-/
import Derived.Test.YtnnmdcagbcdfpaaChecked
import GoSem.Claim
import GoSem.ClaimJoined
import GoSem.ClaimMapViews
import Derived.JoinedTies
import Derived.KernelRfl
namespace Go.Proofs.Ytnnmdcagbcdfpaa
/- THE CELL 'sum', in the pinned program and in every row, IS THE sha256 OF THE DUMP (.gsa) THAT YtnnmdcagbcdfpaaProg.lean LOADS. Nothing in Lean hashes anything: it is a label: what it is worth is what the hold of that sum in a sandbox is worth. -/
noncomputable def Try.pinned : Pinned := { name := "ytnnmdcagbcdfpaa", sum := "1e174d2bdb8908f146c91bfe0fb75124f80a7213ec2d4f04e05050e29a7f64f7", checked := Try.checked }
namespace Rows
def none {H : Type} : Left H := { results := [], args := [] }

/-- 'tropicalaw.CoreCounts': WHATEVER THE INPUT: true; the input reads as it did. -/
def coreCountsSpec : ChangeSpec := { name := "coreCounts", fn := fun _ => fun
  | [d] => { results := [.lit (.bool true)], args := [d] }
  | _ => none }
def coreCountsRow : OpenClaim := { program := "ytnnmdcagbcdfpaa", sum := "1e174d2bdb8908f146c91bfe0fb75124f80a7213ec2d4f04e05050e29a7f64f7", func := "tropica/tropicalaw.CoreCounts", spec := "coreCounts", unfollowed := true, recurses := true, apart := false }
def CoreCountsSaid : Prop := coreCountsRow.holds Try.pinned (OpenSpec.ofChange coreCountsSpec)

/-- ITS FALSE NEIGHBOUR: 'it returns false'. Refute it at one input. -/
def coreCountsWrong : ChangeSpec := { name := "coreCounts", fn := fun _ => fun
  | [d] => { results := [.lit (.bool false)], args := [d] }
  | _ => none }
def CoreCountsWrongFalsely : Prop := coreCountsRow.holds Try.pinned (OpenSpec.ofChange coreCountsWrong)

/-- 'tropicalaw.TurnProjects': WHATEVER THE INPUT: true; the input reads as it did. -/
def turnProjectsSpec : ChangeSpec := { name := "turnProjects", fn := fun _ => fun
  | [d] => { results := [.lit (.bool true)], args := [d] }
  | _ => none }
def turnProjectsRow : OpenClaim := { program := "ytnnmdcagbcdfpaa", sum := "1e174d2bdb8908f146c91bfe0fb75124f80a7213ec2d4f04e05050e29a7f64f7", func := "tropica/tropicalaw.TurnProjects", spec := "turnProjects", unfollowed := true, recurses := true, apart := false }
def TurnProjectsSaid : Prop := turnProjectsRow.holds Try.pinned (OpenSpec.ofChange turnProjectsSpec)

/-- ITS FALSE NEIGHBOUR: 'it returns false'. Refute it at one input. -/
def turnProjectsWrong : ChangeSpec := { name := "turnProjects", fn := fun _ => fun
  | [d] => { results := [.lit (.bool false)], args := [d] }
  | _ => none }
def TurnProjectsWrongFalsely : Prop := turnProjectsRow.holds Try.pinned (OpenSpec.ofChange turnProjectsWrong)

/-- 'tropicalaw.TurnWrites': WHATEVER THE INPUT: true; the input reads as it did. -/
def turnWritesSpec : ChangeSpec := { name := "turnWrites", fn := fun _ => fun
  | [d] => { results := [.lit (.bool true)], args := [d] }
  | _ => none }
def turnWritesRow : OpenClaim := { program := "ytnnmdcagbcdfpaa", sum := "1e174d2bdb8908f146c91bfe0fb75124f80a7213ec2d4f04e05050e29a7f64f7", func := "tropica/tropicalaw.TurnWrites", spec := "turnWrites", unfollowed := true, recurses := true, apart := false }
def TurnWritesSaid : Prop := turnWritesRow.holds Try.pinned (OpenSpec.ofChange turnWritesSpec)

/-- ITS FALSE NEIGHBOUR: 'it returns false'. Refute it at one input. -/
def turnWritesWrong : ChangeSpec := { name := "turnWrites", fn := fun _ => fun
  | [d] => { results := [.lit (.bool false)], args := [d] }
  | _ => none }
def TurnWritesWrongFalsely : Prop := turnWritesRow.holds Try.pinned (OpenSpec.ofChange turnWritesWrong)

/-- 'tropicalaw.TurnInverts': WHATEVER THE INPUT: true; the input reads as it did. -/
def turnInvertsSpec : ChangeSpec := { name := "turnInverts", fn := fun _ => fun
  | [d] => { results := [.lit (.bool true)], args := [d] }
  | _ => none }
def turnInvertsRow : OpenClaim := { program := "ytnnmdcagbcdfpaa", sum := "1e174d2bdb8908f146c91bfe0fb75124f80a7213ec2d4f04e05050e29a7f64f7", func := "tropica/tropicalaw.TurnInverts", spec := "turnInverts", unfollowed := true, recurses := true, apart := false }
def TurnInvertsSaid : Prop := turnInvertsRow.holds Try.pinned (OpenSpec.ofChange turnInvertsSpec)

/-- ITS FALSE NEIGHBOUR: 'it returns false'. Refute it at one input. -/
def turnInvertsWrong : ChangeSpec := { name := "turnInverts", fn := fun _ => fun
  | [d] => { results := [.lit (.bool false)], args := [d] }
  | _ => none }
def TurnInvertsWrongFalsely : Prop := turnInvertsRow.holds Try.pinned (OpenSpec.ofChange turnInvertsWrong)

/-- 'tropicalaw.TurnReverses': WHATEVER THE INPUT: true; the input reads as it did. -/
def turnReversesSpec : ChangeSpec := { name := "turnReverses", fn := fun _ => fun
  | [d] => { results := [.lit (.bool true)], args := [d] }
  | _ => none }
def turnReversesRow : OpenClaim := { program := "ytnnmdcagbcdfpaa", sum := "1e174d2bdb8908f146c91bfe0fb75124f80a7213ec2d4f04e05050e29a7f64f7", func := "tropica/tropicalaw.TurnReverses", spec := "turnReverses", unfollowed := true, recurses := true, apart := false }
def TurnReversesSaid : Prop := turnReversesRow.holds Try.pinned (OpenSpec.ofChange turnReversesSpec)

/-- ITS FALSE NEIGHBOUR: 'it returns false'. Refute it at one input. -/
def turnReversesWrong : ChangeSpec := { name := "turnReverses", fn := fun _ => fun
  | [d] => { results := [.lit (.bool false)], args := [d] }
  | _ => none }
def TurnReversesWrongFalsely : Prop := turnReversesRow.holds Try.pinned (OpenSpec.ofChange turnReversesWrong)

/-- 'tropicalaw.BestFollows': WHATEVER THE INPUT: true; the input reads as it did. -/
def bestFollowsSpec : ChangeSpec := { name := "bestFollows", fn := fun _ => fun
  | [d1, d2] => { results := [.lit (.bool true)], args := [d1, d2] }
  | _ => none }
def bestFollowsRow : OpenClaim := { program := "ytnnmdcagbcdfpaa", sum := "1e174d2bdb8908f146c91bfe0fb75124f80a7213ec2d4f04e05050e29a7f64f7", func := "tropica/tropicalaw.BestFollows", spec := "bestFollows", unfollowed := true, recurses := true, apart := false }
def BestFollowsSaid : Prop := bestFollowsRow.holds Try.pinned (OpenSpec.ofChange bestFollowsSpec)

/-- ITS FALSE NEIGHBOUR: 'it returns false'. Refute it at one input. -/
def bestFollowsWrong : ChangeSpec := { name := "bestFollows", fn := fun _ => fun
  | [d1, d2] => { results := [.lit (.bool false)], args := [d1, d2] }
  | _ => none }
def BestFollowsWrongFalsely : Prop := bestFollowsRow.holds Try.pinned (OpenSpec.ofChange bestFollowsWrong)

/-- 'tropicalaw.ReachAheads': WHATEVER THE INPUT: true; the input reads as it did. -/
def reachAheadsSpec : ChangeSpec := { name := "reachAheads", fn := fun _ => fun
  | [d] => { results := [.lit (.bool true)], args := [d] }
  | _ => none }
def reachAheadsRow : OpenClaim := { program := "ytnnmdcagbcdfpaa", sum := "1e174d2bdb8908f146c91bfe0fb75124f80a7213ec2d4f04e05050e29a7f64f7", func := "tropica/tropicalaw.ReachAheads", spec := "reachAheads", unfollowed := true, recurses := true, apart := false }
def ReachAheadsSaid : Prop := reachAheadsRow.holds Try.pinned (OpenSpec.ofChange reachAheadsSpec)

/-- ITS FALSE NEIGHBOUR: 'it returns false'. Refute it at one input. -/
def reachAheadsWrong : ChangeSpec := { name := "reachAheads", fn := fun _ => fun
  | [d] => { results := [.lit (.bool false)], args := [d] }
  | _ => none }
def ReachAheadsWrongFalsely : Prop := reachAheadsRow.holds Try.pinned (OpenSpec.ofChange reachAheadsWrong)

/-- 'tropicalaw.ReachBacks': WHATEVER THE INPUT: true; the input reads as it did. -/
def reachBacksSpec : ChangeSpec := { name := "reachBacks", fn := fun _ => fun
  | [d] => { results := [.lit (.bool true)], args := [d] }
  | _ => none }
def reachBacksRow : OpenClaim := { program := "ytnnmdcagbcdfpaa", sum := "1e174d2bdb8908f146c91bfe0fb75124f80a7213ec2d4f04e05050e29a7f64f7", func := "tropica/tropicalaw.ReachBacks", spec := "reachBacks", unfollowed := true, recurses := true, apart := false }
def ReachBacksSaid : Prop := reachBacksRow.holds Try.pinned (OpenSpec.ofChange reachBacksSpec)

/-- ITS FALSE NEIGHBOUR: 'it returns false'. Refute it at one input. -/
def reachBacksWrong : ChangeSpec := { name := "reachBacks", fn := fun _ => fun
  | [d] => { results := [.lit (.bool false)], args := [d] }
  | _ => none }
def ReachBacksWrongFalsely : Prop := reachBacksRow.holds Try.pinned (OpenSpec.ofChange reachBacksWrong)

/-- 'tropicalaw.RationalUnions': WHATEVER THE INPUT: true; the input reads as it did. -/
def rationalUnionsSpec : ChangeSpec := { name := "rationalUnions", fn := fun _ => fun
  | [d1, d2] => { results := [.lit (.bool true)], args := [d1, d2] }
  | _ => none }
def rationalUnionsRow : OpenClaim := { program := "ytnnmdcagbcdfpaa", sum := "1e174d2bdb8908f146c91bfe0fb75124f80a7213ec2d4f04e05050e29a7f64f7", func := "tropica/tropicalaw.RationalUnions", spec := "rationalUnions", unfollowed := true, recurses := true, apart := false }
def RationalUnionsSaid : Prop := rationalUnionsRow.holds Try.pinned (OpenSpec.ofChange rationalUnionsSpec)

/-- ITS FALSE NEIGHBOUR: 'it returns false'. Refute it at one input. -/
def rationalUnionsWrong : ChangeSpec := { name := "rationalUnions", fn := fun _ => fun
  | [d1, d2] => { results := [.lit (.bool false)], args := [d1, d2] }
  | _ => none }
def RationalUnionsWrongFalsely : Prop := rationalUnionsRow.holds Try.pinned (OpenSpec.ofChange rationalUnionsWrong)

/-- 'tropicalaw.RationalStars': WHATEVER THE INPUT: true; the input reads as it did. -/
def rationalStarsSpec : ChangeSpec := { name := "rationalStars", fn := fun _ => fun
  | [d] => { results := [.lit (.bool true)], args := [d] }
  | _ => none }
def rationalStarsRow : OpenClaim := { program := "ytnnmdcagbcdfpaa", sum := "1e174d2bdb8908f146c91bfe0fb75124f80a7213ec2d4f04e05050e29a7f64f7", func := "tropica/tropicalaw.RationalStars", spec := "rationalStars", unfollowed := true, recurses := true, apart := false }
def RationalStarsSaid : Prop := rationalStarsRow.holds Try.pinned (OpenSpec.ofChange rationalStarsSpec)

/-- ITS FALSE NEIGHBOUR: 'it returns false'. Refute it at one input. -/
def rationalStarsWrong : ChangeSpec := { name := "rationalStars", fn := fun _ => fun
  | [d] => { results := [.lit (.bool false)], args := [d] }
  | _ => none }
def RationalStarsWrongFalsely : Prop := rationalStarsRow.holds Try.pinned (OpenSpec.ofChange rationalStarsWrong)

/-- 'tropicalaw.RationalConcats': WHATEVER THE INPUT: true; the input reads as it did. -/
def rationalConcatsSpec : ChangeSpec := { name := "rationalConcats", fn := fun _ => fun
  | [d1, d2] => { results := [.lit (.bool true)], args := [d1, d2] }
  | _ => none }
def rationalConcatsRow : OpenClaim := { program := "ytnnmdcagbcdfpaa", sum := "1e174d2bdb8908f146c91bfe0fb75124f80a7213ec2d4f04e05050e29a7f64f7", func := "tropica/tropicalaw.RationalConcats", spec := "rationalConcats", unfollowed := true, recurses := true, apart := false }
def RationalConcatsSaid : Prop := rationalConcatsRow.holds Try.pinned (OpenSpec.ofChange rationalConcatsSpec)

/-- ITS FALSE NEIGHBOUR: 'it returns false'. Refute it at one input. -/
def rationalConcatsWrong : ChangeSpec := { name := "rationalConcats", fn := fun _ => fun
  | [d1, d2] => { results := [.lit (.bool false)], args := [d1, d2] }
  | _ => none }
def RationalConcatsWrongFalsely : Prop := rationalConcatsRow.holds Try.pinned (OpenSpec.ofChange rationalConcatsWrong)

/-- 'tropicalaw.TurnRelabels': WHATEVER THE INPUT: true; the input reads as it did. -/
def turnRelabelsSpec : ChangeSpec := { name := "turnRelabels", fn := fun _ => fun
  | [d1, d2, d3] => { results := [.lit (.bool true)], args := [d1, d2, d3] }
  | _ => none }
def turnRelabelsRow : OpenClaim := { program := "ytnnmdcagbcdfpaa", sum := "1e174d2bdb8908f146c91bfe0fb75124f80a7213ec2d4f04e05050e29a7f64f7", func := "tropica/tropicalaw.TurnRelabels", spec := "turnRelabels", unfollowed := true, recurses := true, apart := false }
def TurnRelabelsSaid : Prop := turnRelabelsRow.holds Try.pinned (OpenSpec.ofChange turnRelabelsSpec)

/-- ITS FALSE NEIGHBOUR: 'it returns false'. Refute it at one input. -/
def turnRelabelsWrong : ChangeSpec := { name := "turnRelabels", fn := fun _ => fun
  | [d1, d2, d3] => { results := [.lit (.bool false)], args := [d1, d2, d3] }
  | _ => none }
def TurnRelabelsWrongFalsely : Prop := turnRelabelsRow.holds Try.pinned (OpenSpec.ofChange turnRelabelsWrong)

/- THE SECOND FORM. 'bulk': how many values and letters a reading holds, each counted each time it is reached (what is shared counts as often as it is met; a slice's spare places count too). A statement '..UptoSaid' is the law's where the arguments, and the package variables that the reading takes, are together of bulk at most 1048576: NARROWER than '..Said'. Prove '..Said' where nothing that the law and all that it calls make is longer than what came in: it says more and counts as full. Else prove '..UptoSaid'. A law counts once. -/
mutual
def uptoBulk {H : Type} : DataW H → Nat
  | .lit (.string bytes) => bytes.length + 1
  | .lit _ => 1
  | .nil => 1
  | .ptr d => uptoBulk d + 1
  | .slice elems spare => uptoBulkAll elems + uptoBulkAll spare + 1
  | .agg parts => uptoBulkAll parts + 1
  | .iface _ d => uptoBulk d + 1
  | .map entries => uptoBulkEntries entries + 1
  | .held _ => 1
def uptoBulkAll {H : Type} : List (DataW H) → Nat
  | [] => 0
  | d :: r => uptoBulk d + uptoBulkAll r
def uptoBulkEntries {H : Type} : List (Lit × DataW H) → Nat
  | [] => 0
  | x :: r => uptoBulkEntry x + uptoBulkEntries r
def uptoBulkEntry {H : Type} : Lit × DataW H → Nat
  | (.string bytes, d) => bytes.length + uptoBulk d + 1
  | (_, d) => uptoBulk d + 1
 end
def uptoSmall : (H : Type) → List (DataW H) → Bool := fun _ ds => decide (uptoBulkAll ds ≤ 1048576)
def OpenSpec.upto (s : _root_.Go.ChangeSpec) : _root_.Go.OpenSpec := { _root_.Go.OpenSpec.ofChange s with cond := some uptoSmall }

/-- 'tropicalaw.CoreCounts', WHERE WHAT IT READS IS OF BULK AT MOST 1048576: true; the input reads as it did. -/
def coreCountsUptoRow : OpenClaim := { program := "ytnnmdcagbcdfpaa", sum := "1e174d2bdb8908f146c91bfe0fb75124f80a7213ec2d4f04e05050e29a7f64f7", func := "tropica/tropicalaw.CoreCounts", spec := "coreCounts", unfollowed := true, recurses := true, apart := false, narrowed := true }
def CoreCountsUptoSaid : Prop := coreCountsUptoRow.holds Try.pinned (OpenSpec.upto coreCountsSpec)

/-- 'tropicalaw.TurnProjects', WHERE WHAT IT READS IS OF BULK AT MOST 1048576: true; the input reads as it did. -/
def turnProjectsUptoRow : OpenClaim := { program := "ytnnmdcagbcdfpaa", sum := "1e174d2bdb8908f146c91bfe0fb75124f80a7213ec2d4f04e05050e29a7f64f7", func := "tropica/tropicalaw.TurnProjects", spec := "turnProjects", unfollowed := true, recurses := true, apart := false, narrowed := true }
def TurnProjectsUptoSaid : Prop := turnProjectsUptoRow.holds Try.pinned (OpenSpec.upto turnProjectsSpec)

/-- 'tropicalaw.TurnWrites', WHERE WHAT IT READS IS OF BULK AT MOST 1048576: true; the input reads as it did. -/
def turnWritesUptoRow : OpenClaim := { program := "ytnnmdcagbcdfpaa", sum := "1e174d2bdb8908f146c91bfe0fb75124f80a7213ec2d4f04e05050e29a7f64f7", func := "tropica/tropicalaw.TurnWrites", spec := "turnWrites", unfollowed := true, recurses := true, apart := false, narrowed := true }
def TurnWritesUptoSaid : Prop := turnWritesUptoRow.holds Try.pinned (OpenSpec.upto turnWritesSpec)

/-- 'tropicalaw.TurnInverts', WHERE WHAT IT READS IS OF BULK AT MOST 1048576: true; the input reads as it did. -/
def turnInvertsUptoRow : OpenClaim := { program := "ytnnmdcagbcdfpaa", sum := "1e174d2bdb8908f146c91bfe0fb75124f80a7213ec2d4f04e05050e29a7f64f7", func := "tropica/tropicalaw.TurnInverts", spec := "turnInverts", unfollowed := true, recurses := true, apart := false, narrowed := true }
def TurnInvertsUptoSaid : Prop := turnInvertsUptoRow.holds Try.pinned (OpenSpec.upto turnInvertsSpec)

/-- 'tropicalaw.TurnReverses', WHERE WHAT IT READS IS OF BULK AT MOST 1048576: true; the input reads as it did. -/
def turnReversesUptoRow : OpenClaim := { program := "ytnnmdcagbcdfpaa", sum := "1e174d2bdb8908f146c91bfe0fb75124f80a7213ec2d4f04e05050e29a7f64f7", func := "tropica/tropicalaw.TurnReverses", spec := "turnReverses", unfollowed := true, recurses := true, apart := false, narrowed := true }
def TurnReversesUptoSaid : Prop := turnReversesUptoRow.holds Try.pinned (OpenSpec.upto turnReversesSpec)

/-- 'tropicalaw.BestFollows', WHERE WHAT IT READS IS OF BULK AT MOST 1048576: true; the input reads as it did. -/
def bestFollowsUptoRow : OpenClaim := { program := "ytnnmdcagbcdfpaa", sum := "1e174d2bdb8908f146c91bfe0fb75124f80a7213ec2d4f04e05050e29a7f64f7", func := "tropica/tropicalaw.BestFollows", spec := "bestFollows", unfollowed := true, recurses := true, apart := false, narrowed := true }
def BestFollowsUptoSaid : Prop := bestFollowsUptoRow.holds Try.pinned (OpenSpec.upto bestFollowsSpec)

/-- 'tropicalaw.ReachAheads', WHERE WHAT IT READS IS OF BULK AT MOST 1048576: true; the input reads as it did. -/
def reachAheadsUptoRow : OpenClaim := { program := "ytnnmdcagbcdfpaa", sum := "1e174d2bdb8908f146c91bfe0fb75124f80a7213ec2d4f04e05050e29a7f64f7", func := "tropica/tropicalaw.ReachAheads", spec := "reachAheads", unfollowed := true, recurses := true, apart := false, narrowed := true }
def ReachAheadsUptoSaid : Prop := reachAheadsUptoRow.holds Try.pinned (OpenSpec.upto reachAheadsSpec)

/-- 'tropicalaw.ReachBacks', WHERE WHAT IT READS IS OF BULK AT MOST 1048576: true; the input reads as it did. -/
def reachBacksUptoRow : OpenClaim := { program := "ytnnmdcagbcdfpaa", sum := "1e174d2bdb8908f146c91bfe0fb75124f80a7213ec2d4f04e05050e29a7f64f7", func := "tropica/tropicalaw.ReachBacks", spec := "reachBacks", unfollowed := true, recurses := true, apart := false, narrowed := true }
def ReachBacksUptoSaid : Prop := reachBacksUptoRow.holds Try.pinned (OpenSpec.upto reachBacksSpec)

/-- 'tropicalaw.RationalUnions', WHERE WHAT IT READS IS OF BULK AT MOST 1048576: true; the input reads as it did. -/
def rationalUnionsUptoRow : OpenClaim := { program := "ytnnmdcagbcdfpaa", sum := "1e174d2bdb8908f146c91bfe0fb75124f80a7213ec2d4f04e05050e29a7f64f7", func := "tropica/tropicalaw.RationalUnions", spec := "rationalUnions", unfollowed := true, recurses := true, apart := false, narrowed := true }
def RationalUnionsUptoSaid : Prop := rationalUnionsUptoRow.holds Try.pinned (OpenSpec.upto rationalUnionsSpec)

/-- 'tropicalaw.RationalStars', WHERE WHAT IT READS IS OF BULK AT MOST 1048576: true; the input reads as it did. -/
def rationalStarsUptoRow : OpenClaim := { program := "ytnnmdcagbcdfpaa", sum := "1e174d2bdb8908f146c91bfe0fb75124f80a7213ec2d4f04e05050e29a7f64f7", func := "tropica/tropicalaw.RationalStars", spec := "rationalStars", unfollowed := true, recurses := true, apart := false, narrowed := true }
def RationalStarsUptoSaid : Prop := rationalStarsUptoRow.holds Try.pinned (OpenSpec.upto rationalStarsSpec)

/-- 'tropicalaw.RationalConcats', WHERE WHAT IT READS IS OF BULK AT MOST 1048576: true; the input reads as it did. -/
def rationalConcatsUptoRow : OpenClaim := { program := "ytnnmdcagbcdfpaa", sum := "1e174d2bdb8908f146c91bfe0fb75124f80a7213ec2d4f04e05050e29a7f64f7", func := "tropica/tropicalaw.RationalConcats", spec := "rationalConcats", unfollowed := true, recurses := true, apart := false, narrowed := true }
def RationalConcatsUptoSaid : Prop := rationalConcatsUptoRow.holds Try.pinned (OpenSpec.upto rationalConcatsSpec)

/-- 'tropicalaw.TurnRelabels', WHERE WHAT IT READS IS OF BULK AT MOST 1048576: true; the input reads as it did. -/
def turnRelabelsUptoRow : OpenClaim := { program := "ytnnmdcagbcdfpaa", sum := "1e174d2bdb8908f146c91bfe0fb75124f80a7213ec2d4f04e05050e29a7f64f7", func := "tropica/tropicalaw.TurnRelabels", spec := "turnRelabels", unfollowed := true, recurses := true, apart := false, narrowed := true }
def TurnRelabelsUptoSaid : Prop := turnRelabelsUptoRow.holds Try.pinned (OpenSpec.upto turnRelabelsSpec)

end Rows
end Go.Proofs.Ytnnmdcagbcdfpaa
