/-
  No cell of these rows narrows 'for every input' (looked for: loops, veiled, ifaces, maps, wideKeys, modest, calm, conditions, laid).
  DERIVED. THE GIVEN ROWS OF THIS SEAT. 12 by the template 'for every input the law returns true; each argument reads behind the call as it read before'; 0 by the template 'total and deterministic' (their statements: YtdpniifajmpmkaaTotals.lean).
  GIVEN WITH THE SEED: the statements are not yours to turn. If you find one false, say at which input.
  Laid BY PROGRAM, IN A SANDBOX (cutbox-rows.mjs): the forced cells as the released guide's own fill.sh prints them over the translation 0f0371896aa420d6… (all of the seat's roots in one cut). By AI agents, Wed Nov 11 2026. No macro, syntax, notation, axiom, sorry.
-/
import Derived.Test.YtdpniifajmpmkaaChecked
import GoSem.Claim
import GoSem.ClaimJoined
import GoSem.ClaimMapViews
import Derived.JoinedTies
import Derived.KernelRfl
namespace Go.Proofs.Ytdpniifajmpmkaa
/- THE CELL 'sum', in the pinned program and in every row, IS THE sha256 OF THE DUMP (.gsa) THAT YtdpniifajmpmkaaProg.lean LOADS. Nothing in Lean hashes anything: it is a label: what it is worth is what the hold of that sum in a sandbox is worth. -/
noncomputable def Try.pinned : Pinned := { name := "ytdpniifajmpmkaa", sum := "0f0371896aa420d6fa03b8c3a0a1525768f9a995ebc901b96ec33c2fa3d4ef12", checked := Try.checked }
namespace Rows
def none {H : Type} : Left H := { results := [], args := [] }

/-- 'tropicalaw.RationalUnions': WHATEVER THE INPUT: true; the input reads as it did. -/
def rationalUnionsSpec : ChangeSpec := { name := "rationalUnions", fn := fun _ => fun
  | [d1, d2] => { results := [.lit (.bool true)], args := [d1, d2] }
  | _ => none }
def rationalUnionsRow : OpenClaim := { program := "ytdpniifajmpmkaa", sum := "0f0371896aa420d6fa03b8c3a0a1525768f9a995ebc901b96ec33c2fa3d4ef12", func := "tropica/tropicalaw.RationalUnions", spec := "rationalUnions", unfollowed := true, recurses := true, plainKeys := false, apart := false }
def RationalUnionsSaid : Prop := rationalUnionsRow.holds Try.pinned (OpenSpec.ofChange rationalUnionsSpec)

/-- ITS FALSE NEIGHBOUR: 'it returns false'. Refute it at one input. -/
def rationalUnionsWrong : ChangeSpec := { name := "rationalUnions", fn := fun _ => fun
  | [d1, d2] => { results := [.lit (.bool false)], args := [d1, d2] }
  | _ => none }
def RationalUnionsWrongFalsely : Prop := rationalUnionsRow.holds Try.pinned (OpenSpec.ofChange rationalUnionsWrong)

/-- 'tropicalaw.TurnReverses': WHATEVER THE INPUT: true; the input reads as it did. -/
def turnReversesSpec : ChangeSpec := { name := "turnReverses", fn := fun _ => fun
  | [d] => { results := [.lit (.bool true)], args := [d] }
  | _ => none }
def turnReversesRow : OpenClaim := { program := "ytdpniifajmpmkaa", sum := "0f0371896aa420d6fa03b8c3a0a1525768f9a995ebc901b96ec33c2fa3d4ef12", func := "tropica/tropicalaw.TurnReverses", spec := "turnReverses", unfollowed := true, recurses := true, plainKeys := false, apart := false }
def TurnReversesSaid : Prop := turnReversesRow.holds Try.pinned (OpenSpec.ofChange turnReversesSpec)

/-- ITS FALSE NEIGHBOUR: 'it returns false'. Refute it at one input. -/
def turnReversesWrong : ChangeSpec := { name := "turnReverses", fn := fun _ => fun
  | [d] => { results := [.lit (.bool false)], args := [d] }
  | _ => none }
def TurnReversesWrongFalsely : Prop := turnReversesRow.holds Try.pinned (OpenSpec.ofChange turnReversesWrong)

/-- 'tropicalaw.ReachAheads': WHATEVER THE INPUT: true; the input reads as it did. -/
def reachAheadsSpec : ChangeSpec := { name := "reachAheads", fn := fun _ => fun
  | [d] => { results := [.lit (.bool true)], args := [d] }
  | _ => none }
def reachAheadsRow : OpenClaim := { program := "ytdpniifajmpmkaa", sum := "0f0371896aa420d6fa03b8c3a0a1525768f9a995ebc901b96ec33c2fa3d4ef12", func := "tropica/tropicalaw.ReachAheads", spec := "reachAheads", unfollowed := true, recurses := true, plainKeys := false, apart := false }
def ReachAheadsSaid : Prop := reachAheadsRow.holds Try.pinned (OpenSpec.ofChange reachAheadsSpec)

/-- ITS FALSE NEIGHBOUR: 'it returns false'. Refute it at one input. -/
def reachAheadsWrong : ChangeSpec := { name := "reachAheads", fn := fun _ => fun
  | [d] => { results := [.lit (.bool false)], args := [d] }
  | _ => none }
def ReachAheadsWrongFalsely : Prop := reachAheadsRow.holds Try.pinned (OpenSpec.ofChange reachAheadsWrong)

/-- 'tropicalaw.ReachBacks': WHATEVER THE INPUT: true; the input reads as it did. -/
def reachBacksSpec : ChangeSpec := { name := "reachBacks", fn := fun _ => fun
  | [d] => { results := [.lit (.bool true)], args := [d] }
  | _ => none }
def reachBacksRow : OpenClaim := { program := "ytdpniifajmpmkaa", sum := "0f0371896aa420d6fa03b8c3a0a1525768f9a995ebc901b96ec33c2fa3d4ef12", func := "tropica/tropicalaw.ReachBacks", spec := "reachBacks", unfollowed := true, recurses := true, plainKeys := false, apart := false }
def ReachBacksSaid : Prop := reachBacksRow.holds Try.pinned (OpenSpec.ofChange reachBacksSpec)

/-- ITS FALSE NEIGHBOUR: 'it returns false'. Refute it at one input. -/
def reachBacksWrong : ChangeSpec := { name := "reachBacks", fn := fun _ => fun
  | [d] => { results := [.lit (.bool false)], args := [d] }
  | _ => none }
def ReachBacksWrongFalsely : Prop := reachBacksRow.holds Try.pinned (OpenSpec.ofChange reachBacksWrong)

/-- 'tropicalaw.TurnRelabels': WHATEVER THE INPUT: true; the input reads as it did. -/
def turnRelabelsSpec : ChangeSpec := { name := "turnRelabels", fn := fun _ => fun
  | [d1, d2, d3] => { results := [.lit (.bool true)], args := [d1, d2, d3] }
  | _ => none }
def turnRelabelsRow : OpenClaim := { program := "ytdpniifajmpmkaa", sum := "0f0371896aa420d6fa03b8c3a0a1525768f9a995ebc901b96ec33c2fa3d4ef12", func := "tropica/tropicalaw.TurnRelabels", spec := "turnRelabels", unfollowed := true, recurses := true, plainKeys := false, apart := false }
def TurnRelabelsSaid : Prop := turnRelabelsRow.holds Try.pinned (OpenSpec.ofChange turnRelabelsSpec)

/-- ITS FALSE NEIGHBOUR: 'it returns false'. Refute it at one input. -/
def turnRelabelsWrong : ChangeSpec := { name := "turnRelabels", fn := fun _ => fun
  | [d1, d2, d3] => { results := [.lit (.bool false)], args := [d1, d2, d3] }
  | _ => none }
def TurnRelabelsWrongFalsely : Prop := turnRelabelsRow.holds Try.pinned (OpenSpec.ofChange turnRelabelsWrong)

/-- 'tropicalaw.DistanceEnds': WHATEVER THE INPUT: true; the input reads as it did. -/
def distanceEndsSpec : ChangeSpec := { name := "distanceEnds", fn := fun _ => fun
  | [d] => { results := [.lit (.bool true)], args := [d] }
  | _ => none }
def distanceEndsRow : OpenClaim := { program := "ytdpniifajmpmkaa", sum := "0f0371896aa420d6fa03b8c3a0a1525768f9a995ebc901b96ec33c2fa3d4ef12", func := "tropica/tropicalaw.DistanceEnds", spec := "distanceEnds", unfollowed := true, recurses := true, plainKeys := false, apart := false }
def DistanceEndsSaid : Prop := distanceEndsRow.holds Try.pinned (OpenSpec.ofChange distanceEndsSpec)

/-- ITS FALSE NEIGHBOUR: 'it returns false'. Refute it at one input. -/
def distanceEndsWrong : ChangeSpec := { name := "distanceEnds", fn := fun _ => fun
  | [d] => { results := [.lit (.bool false)], args := [d] }
  | _ => none }
def DistanceEndsWrongFalsely : Prop := distanceEndsRow.holds Try.pinned (OpenSpec.ofChange distanceEndsWrong)

/-- 'tropicalaw.DistanceFroms': WHATEVER THE INPUT: true; the input reads as it did. -/
def distanceFromsSpec : ChangeSpec := { name := "distanceFroms", fn := fun _ => fun
  | [d] => { results := [.lit (.bool true)], args := [d] }
  | _ => none }
def distanceFromsRow : OpenClaim := { program := "ytdpniifajmpmkaa", sum := "0f0371896aa420d6fa03b8c3a0a1525768f9a995ebc901b96ec33c2fa3d4ef12", func := "tropica/tropicalaw.DistanceFroms", spec := "distanceFroms", unfollowed := true, recurses := true, plainKeys := false, apart := false }
def DistanceFromsSaid : Prop := distanceFromsRow.holds Try.pinned (OpenSpec.ofChange distanceFromsSpec)

/-- ITS FALSE NEIGHBOUR: 'it returns false'. Refute it at one input. -/
def distanceFromsWrong : ChangeSpec := { name := "distanceFroms", fn := fun _ => fun
  | [d] => { results := [.lit (.bool false)], args := [d] }
  | _ => none }
def DistanceFromsWrongFalsely : Prop := distanceFromsRow.holds Try.pinned (OpenSpec.ofChange distanceFromsWrong)

/-- 'tropicalaw.DistanceLeasts': WHATEVER THE INPUT: true; the input reads as it did. -/
def distanceLeastsSpec : ChangeSpec := { name := "distanceLeasts", fn := fun _ => fun
  | [d] => { results := [.lit (.bool true)], args := [d] }
  | _ => none }
def distanceLeastsRow : OpenClaim := { program := "ytdpniifajmpmkaa", sum := "0f0371896aa420d6fa03b8c3a0a1525768f9a995ebc901b96ec33c2fa3d4ef12", func := "tropica/tropicalaw.DistanceLeasts", spec := "distanceLeasts", unfollowed := true, recurses := true, plainKeys := false, apart := false }
def DistanceLeastsSaid : Prop := distanceLeastsRow.holds Try.pinned (OpenSpec.ofChange distanceLeastsSpec)

/-- ITS FALSE NEIGHBOUR: 'it returns false'. Refute it at one input. -/
def distanceLeastsWrong : ChangeSpec := { name := "distanceLeasts", fn := fun _ => fun
  | [d] => { results := [.lit (.bool false)], args := [d] }
  | _ => none }
def DistanceLeastsWrongFalsely : Prop := distanceLeastsRow.holds Try.pinned (OpenSpec.ofChange distanceLeastsWrong)

/-- 'tropicalaw.CoreBits': WHATEVER THE INPUT: true; the input reads as it did. -/
def coreBitsSpec : ChangeSpec := { name := "coreBits", fn := fun _ => fun
  | [d] => { results := [.lit (.bool true)], args := [d] }
  | _ => none }
def coreBitsRow : OpenClaim := { program := "ytdpniifajmpmkaa", sum := "0f0371896aa420d6fa03b8c3a0a1525768f9a995ebc901b96ec33c2fa3d4ef12", func := "tropica/tropicalaw.CoreBits", spec := "coreBits", unfollowed := true, recurses := true, plainKeys := false, apart := false }
def CoreBitsSaid : Prop := coreBitsRow.holds Try.pinned (OpenSpec.ofChange coreBitsSpec)

/-- ITS FALSE NEIGHBOUR: 'it returns false'. Refute it at one input. -/
def coreBitsWrong : ChangeSpec := { name := "coreBits", fn := fun _ => fun
  | [d] => { results := [.lit (.bool false)], args := [d] }
  | _ => none }
def CoreBitsWrongFalsely : Prop := coreBitsRow.holds Try.pinned (OpenSpec.ofChange coreBitsWrong)

/-- 'tropicalaw.ReachTrims': WHATEVER THE INPUT: true; the input reads as it did. -/
def reachTrimsSpec : ChangeSpec := { name := "reachTrims", fn := fun _ => fun
  | [d] => { results := [.lit (.bool true)], args := [d] }
  | _ => none }
def reachTrimsRow : OpenClaim := { program := "ytdpniifajmpmkaa", sum := "0f0371896aa420d6fa03b8c3a0a1525768f9a995ebc901b96ec33c2fa3d4ef12", func := "tropica/tropicalaw.ReachTrims", spec := "reachTrims", unfollowed := true, recurses := true, plainKeys := false, apart := false }
def ReachTrimsSaid : Prop := reachTrimsRow.holds Try.pinned (OpenSpec.ofChange reachTrimsSpec)

/-- ITS FALSE NEIGHBOUR: 'it returns false'. Refute it at one input. -/
def reachTrimsWrong : ChangeSpec := { name := "reachTrims", fn := fun _ => fun
  | [d] => { results := [.lit (.bool false)], args := [d] }
  | _ => none }
def ReachTrimsWrongFalsely : Prop := reachTrimsRow.holds Try.pinned (OpenSpec.ofChange reachTrimsWrong)

/-- 'tropicalaw.PushPulls': WHATEVER THE INPUT: true; the input reads as it did. -/
def pushPullsSpec : ChangeSpec := { name := "pushPulls", fn := fun _ => fun
  | [d1, d2] => { results := [.lit (.bool true)], args := [d1, d2] }
  | _ => none }
def pushPullsRow : OpenClaim := { program := "ytdpniifajmpmkaa", sum := "0f0371896aa420d6fa03b8c3a0a1525768f9a995ebc901b96ec33c2fa3d4ef12", func := "tropica/tropicalaw.PushPulls", spec := "pushPulls", unfollowed := true, recurses := true, plainKeys := false, apart := false }
def PushPullsSaid : Prop := pushPullsRow.holds Try.pinned (OpenSpec.ofChange pushPullsSpec)

/-- ITS FALSE NEIGHBOUR: 'it returns false'. Refute it at one input. -/
def pushPullsWrong : ChangeSpec := { name := "pushPulls", fn := fun _ => fun
  | [d1, d2] => { results := [.lit (.bool false)], args := [d1, d2] }
  | _ => none }
def PushPullsWrongFalsely : Prop := pushPullsRow.holds Try.pinned (OpenSpec.ofChange pushPullsWrong)

/-- 'tropicalaw.ComposeExpands': WHATEVER THE INPUT: true; the input reads as it did. -/
def composeExpandsSpec : ChangeSpec := { name := "composeExpands", fn := fun _ => fun
  | [d1, d2, d3] => { results := [.lit (.bool true)], args := [d1, d2, d3] }
  | _ => none }
def composeExpandsRow : OpenClaim := { program := "ytdpniifajmpmkaa", sum := "0f0371896aa420d6fa03b8c3a0a1525768f9a995ebc901b96ec33c2fa3d4ef12", func := "tropica/tropicalaw.ComposeExpands", spec := "composeExpands", unfollowed := true, recurses := true, plainKeys := false, apart := false }
def ComposeExpandsSaid : Prop := composeExpandsRow.holds Try.pinned (OpenSpec.ofChange composeExpandsSpec)

/-- ITS FALSE NEIGHBOUR: 'it returns false'. Refute it at one input. -/
def composeExpandsWrong : ChangeSpec := { name := "composeExpands", fn := fun _ => fun
  | [d1, d2, d3] => { results := [.lit (.bool false)], args := [d1, d2, d3] }
  | _ => none }
def ComposeExpandsWrongFalsely : Prop := composeExpandsRow.holds Try.pinned (OpenSpec.ofChange composeExpandsWrong)

/- THE SECOND FORM. 'bulk': how many values and letters a reading holds, each counted each time it is reached (what is shared counts as often as it is met; a slice's spare places count too). A statement '..UptoSaid' is the law's where the arguments, and the package variables that the reading takes, are together of bulk at most 1048576: NARROWER than '..Said'. Prove '..Said' where nothing that the law and all that it calls make is longer than what came in: it says more and counts as full. Else prove '..UptoSaid'. A law counts once. -/
mutual
def uptoBulk {H : Type} : DataW H → Nat
  | .lit (.string bytes) => bytes.length + 1
  | .lit _ => 1
  | .nil => 1
  | .ptr d => uptoBulk d + 1
  | .slice elems spare => uptoBulkAll elems + uptoBulkAll spare + 1
  | .agg parts => uptoBulkAll parts + 1
  | .iface _ d => uptoBulk d + 1
  | .map entries => uptoBulkEntries entries + 1
  | .held _ => 1
def uptoBulkAll {H : Type} : List (DataW H) → Nat
  | [] => 0
  | d :: r => uptoBulk d + uptoBulkAll r
def uptoBulkEntries {H : Type} : List (Lit × DataW H) → Nat
  | [] => 0
  | x :: r => uptoBulkEntry x + uptoBulkEntries r
def uptoBulkEntry {H : Type} : Lit × DataW H → Nat
  | (.string bytes, d) => bytes.length + uptoBulk d + 1
  | (_, d) => uptoBulk d + 1
 end
def uptoSmall : (H : Type) → List (DataW H) → Bool := fun _ ds => decide (uptoBulkAll ds ≤ 1048576)
def OpenSpec.upto (s : _root_.Go.ChangeSpec) : _root_.Go.OpenSpec := { _root_.Go.OpenSpec.ofChange s with cond := some uptoSmall }

/-- 'tropicalaw.RationalUnions', WHERE WHAT IT READS IS OF BULK AT MOST 1048576: true; the input reads as it did. -/
def rationalUnionsUptoRow : OpenClaim := { program := "ytdpniifajmpmkaa", sum := "0f0371896aa420d6fa03b8c3a0a1525768f9a995ebc901b96ec33c2fa3d4ef12", func := "tropica/tropicalaw.RationalUnions", spec := "rationalUnions", unfollowed := true, recurses := true, plainKeys := false, apart := false, narrowed := true }
def RationalUnionsUptoSaid : Prop := rationalUnionsUptoRow.holds Try.pinned (OpenSpec.upto rationalUnionsSpec)

/-- 'tropicalaw.TurnReverses', WHERE WHAT IT READS IS OF BULK AT MOST 1048576: true; the input reads as it did. -/
def turnReversesUptoRow : OpenClaim := { program := "ytdpniifajmpmkaa", sum := "0f0371896aa420d6fa03b8c3a0a1525768f9a995ebc901b96ec33c2fa3d4ef12", func := "tropica/tropicalaw.TurnReverses", spec := "turnReverses", unfollowed := true, recurses := true, plainKeys := false, apart := false, narrowed := true }
def TurnReversesUptoSaid : Prop := turnReversesUptoRow.holds Try.pinned (OpenSpec.upto turnReversesSpec)

/-- 'tropicalaw.ReachAheads', WHERE WHAT IT READS IS OF BULK AT MOST 1048576: true; the input reads as it did. -/
def reachAheadsUptoRow : OpenClaim := { program := "ytdpniifajmpmkaa", sum := "0f0371896aa420d6fa03b8c3a0a1525768f9a995ebc901b96ec33c2fa3d4ef12", func := "tropica/tropicalaw.ReachAheads", spec := "reachAheads", unfollowed := true, recurses := true, plainKeys := false, apart := false, narrowed := true }
def ReachAheadsUptoSaid : Prop := reachAheadsUptoRow.holds Try.pinned (OpenSpec.upto reachAheadsSpec)

/-- 'tropicalaw.ReachBacks', WHERE WHAT IT READS IS OF BULK AT MOST 1048576: true; the input reads as it did. -/
def reachBacksUptoRow : OpenClaim := { program := "ytdpniifajmpmkaa", sum := "0f0371896aa420d6fa03b8c3a0a1525768f9a995ebc901b96ec33c2fa3d4ef12", func := "tropica/tropicalaw.ReachBacks", spec := "reachBacks", unfollowed := true, recurses := true, plainKeys := false, apart := false, narrowed := true }
def ReachBacksUptoSaid : Prop := reachBacksUptoRow.holds Try.pinned (OpenSpec.upto reachBacksSpec)

/-- 'tropicalaw.TurnRelabels', WHERE WHAT IT READS IS OF BULK AT MOST 1048576: true; the input reads as it did. -/
def turnRelabelsUptoRow : OpenClaim := { program := "ytdpniifajmpmkaa", sum := "0f0371896aa420d6fa03b8c3a0a1525768f9a995ebc901b96ec33c2fa3d4ef12", func := "tropica/tropicalaw.TurnRelabels", spec := "turnRelabels", unfollowed := true, recurses := true, plainKeys := false, apart := false, narrowed := true }
def TurnRelabelsUptoSaid : Prop := turnRelabelsUptoRow.holds Try.pinned (OpenSpec.upto turnRelabelsSpec)

/-- 'tropicalaw.DistanceEnds', WHERE WHAT IT READS IS OF BULK AT MOST 1048576: true; the input reads as it did. -/
def distanceEndsUptoRow : OpenClaim := { program := "ytdpniifajmpmkaa", sum := "0f0371896aa420d6fa03b8c3a0a1525768f9a995ebc901b96ec33c2fa3d4ef12", func := "tropica/tropicalaw.DistanceEnds", spec := "distanceEnds", unfollowed := true, recurses := true, plainKeys := false, apart := false, narrowed := true }
def DistanceEndsUptoSaid : Prop := distanceEndsUptoRow.holds Try.pinned (OpenSpec.upto distanceEndsSpec)

/-- 'tropicalaw.DistanceFroms', WHERE WHAT IT READS IS OF BULK AT MOST 1048576: true; the input reads as it did. -/
def distanceFromsUptoRow : OpenClaim := { program := "ytdpniifajmpmkaa", sum := "0f0371896aa420d6fa03b8c3a0a1525768f9a995ebc901b96ec33c2fa3d4ef12", func := "tropica/tropicalaw.DistanceFroms", spec := "distanceFroms", unfollowed := true, recurses := true, plainKeys := false, apart := false, narrowed := true }
def DistanceFromsUptoSaid : Prop := distanceFromsUptoRow.holds Try.pinned (OpenSpec.upto distanceFromsSpec)

/-- 'tropicalaw.DistanceLeasts', WHERE WHAT IT READS IS OF BULK AT MOST 1048576: true; the input reads as it did. -/
def distanceLeastsUptoRow : OpenClaim := { program := "ytdpniifajmpmkaa", sum := "0f0371896aa420d6fa03b8c3a0a1525768f9a995ebc901b96ec33c2fa3d4ef12", func := "tropica/tropicalaw.DistanceLeasts", spec := "distanceLeasts", unfollowed := true, recurses := true, plainKeys := false, apart := false, narrowed := true }
def DistanceLeastsUptoSaid : Prop := distanceLeastsUptoRow.holds Try.pinned (OpenSpec.upto distanceLeastsSpec)

/-- 'tropicalaw.CoreBits', WHERE WHAT IT READS IS OF BULK AT MOST 1048576: true; the input reads as it did. -/
def coreBitsUptoRow : OpenClaim := { program := "ytdpniifajmpmkaa", sum := "0f0371896aa420d6fa03b8c3a0a1525768f9a995ebc901b96ec33c2fa3d4ef12", func := "tropica/tropicalaw.CoreBits", spec := "coreBits", unfollowed := true, recurses := true, plainKeys := false, apart := false, narrowed := true }
def CoreBitsUptoSaid : Prop := coreBitsUptoRow.holds Try.pinned (OpenSpec.upto coreBitsSpec)

/-- 'tropicalaw.ReachTrims', WHERE WHAT IT READS IS OF BULK AT MOST 1048576: true; the input reads as it did. -/
def reachTrimsUptoRow : OpenClaim := { program := "ytdpniifajmpmkaa", sum := "0f0371896aa420d6fa03b8c3a0a1525768f9a995ebc901b96ec33c2fa3d4ef12", func := "tropica/tropicalaw.ReachTrims", spec := "reachTrims", unfollowed := true, recurses := true, plainKeys := false, apart := false, narrowed := true }
def ReachTrimsUptoSaid : Prop := reachTrimsUptoRow.holds Try.pinned (OpenSpec.upto reachTrimsSpec)

/-- 'tropicalaw.PushPulls', WHERE WHAT IT READS IS OF BULK AT MOST 1048576: true; the input reads as it did. -/
def pushPullsUptoRow : OpenClaim := { program := "ytdpniifajmpmkaa", sum := "0f0371896aa420d6fa03b8c3a0a1525768f9a995ebc901b96ec33c2fa3d4ef12", func := "tropica/tropicalaw.PushPulls", spec := "pushPulls", unfollowed := true, recurses := true, plainKeys := false, apart := false, narrowed := true }
def PushPullsUptoSaid : Prop := pushPullsUptoRow.holds Try.pinned (OpenSpec.upto pushPullsSpec)

/-- 'tropicalaw.ComposeExpands', WHERE WHAT IT READS IS OF BULK AT MOST 1048576: true; the input reads as it did. -/
def composeExpandsUptoRow : OpenClaim := { program := "ytdpniifajmpmkaa", sum := "0f0371896aa420d6fa03b8c3a0a1525768f9a995ebc901b96ec33c2fa3d4ef12", func := "tropica/tropicalaw.ComposeExpands", spec := "composeExpands", unfollowed := true, recurses := true, plainKeys := false, apart := false, narrowed := true }
def ComposeExpandsUptoSaid : Prop := composeExpandsUptoRow.holds Try.pinned (OpenSpec.upto composeExpandsSpec)

end Rows
end Go.Proofs.Ytdpniifajmpmkaa
