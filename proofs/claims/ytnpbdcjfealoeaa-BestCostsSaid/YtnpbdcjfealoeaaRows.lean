/-
  No cell of these rows narrows 'for every input' (looked for: loops, veiled, ifaces, maps, wideKeys, modest, calm, conditions, laid).
  DERIVED. THE GIVEN ROWS OF THIS SEAT. 12 by the template 'for every input the law returns true; each argument reads behind the call as it read before'; 0 by the template 'total and deterministic' (their statements: YtnpbdcjfealoeaaTotals.lean).
  GIVEN WITH THE SEED: the statements are not yours to turn. If you find one false, say at which input.
  Laid BY PROGRAM, IN A SANDBOX (cutbox-rows.mjs): the forced cells as the released guide's own fill.sh prints them over the translation 74031f69aecfc064… (all of the seat's roots in one cut). By AI agents, Wed Nov 11 2026. No macro, syntax, notation, axiom, sorry.
-/
import Derived.Test.YtnpbdcjfealoeaaChecked
import GoSem.Claim
import GoSem.ClaimJoined
import GoSem.ClaimMapViews
import Derived.JoinedTies
import Derived.KernelRfl
namespace Go.Proofs.Ytnpbdcjfealoeaa
/- THE CELL 'sum', in the pinned program and in every row, IS THE sha256 OF THE DUMP (.gsa) THAT YtnpbdcjfealoeaaProg.lean LOADS. Nothing in Lean hashes anything: it is a label: what it is worth is what the hold of that sum in a sandbox is worth. -/
noncomputable def Try.pinned : Pinned := { name := "ytnpbdcjfealoeaa", sum := "74031f69aecfc064a822f175dea803edf028b0acaeb4721976ef7627aef34638", checked := Try.checked }
namespace Rows
def none {H : Type} : Left H := { results := [], args := [] }

/-- 'tropicalaw.StreamEnds': WHATEVER THE INPUT: true; the input reads as it did. -/
def streamEndsSpec : ChangeSpec := { name := "streamEnds", fn := fun _ => fun
  | [d1, d2] => { results := [.lit (.bool true)], args := [d1, d2] }
  | _ => none }
def streamEndsRow : OpenClaim := { program := "ytnpbdcjfealoeaa", sum := "74031f69aecfc064a822f175dea803edf028b0acaeb4721976ef7627aef34638", func := "tropica/tropicalaw.StreamEnds", spec := "streamEnds", unfollowed := true, recurses := true, plainKeys := false, apart := false }
def StreamEndsSaid : Prop := streamEndsRow.holds Try.pinned (OpenSpec.ofChange streamEndsSpec)

/-- ITS FALSE NEIGHBOUR: 'it returns false'. Refute it at one input. -/
def streamEndsWrong : ChangeSpec := { name := "streamEnds", fn := fun _ => fun
  | [d1, d2] => { results := [.lit (.bool false)], args := [d1, d2] }
  | _ => none }
def StreamEndsWrongFalsely : Prop := streamEndsRow.holds Try.pinned (OpenSpec.ofChange streamEndsWrong)

/-- 'tropicalaw.StreamBegins': WHATEVER THE INPUT: true; the input reads as it did. -/
def streamBeginsSpec : ChangeSpec := { name := "streamBegins", fn := fun _ => fun
  | [d] => { results := [.lit (.bool true)], args := [d] }
  | _ => none }
def streamBeginsRow : OpenClaim := { program := "ytnpbdcjfealoeaa", sum := "74031f69aecfc064a822f175dea803edf028b0acaeb4721976ef7627aef34638", func := "tropica/tropicalaw.StreamBegins", spec := "streamBegins", unfollowed := true, recurses := true, plainKeys := false, apart := false }
def StreamBeginsSaid : Prop := streamBeginsRow.holds Try.pinned (OpenSpec.ofChange streamBeginsSpec)

/-- ITS FALSE NEIGHBOUR: 'it returns false'. Refute it at one input. -/
def streamBeginsWrong : ChangeSpec := { name := "streamBegins", fn := fun _ => fun
  | [d] => { results := [.lit (.bool false)], args := [d] }
  | _ => none }
def StreamBeginsWrongFalsely : Prop := streamBeginsRow.holds Try.pinned (OpenSpec.ofChange streamBeginsWrong)

/-- 'tropicalaw.StreamFeeds': WHATEVER THE INPUT: true; the input reads as it did. -/
def streamFeedsSpec : ChangeSpec := { name := "streamFeeds", fn := fun _ => fun
  | [d1, d2, d3] => { results := [.lit (.bool true)], args := [d1, d2, d3] }
  | _ => none }
def streamFeedsRow : OpenClaim := { program := "ytnpbdcjfealoeaa", sum := "74031f69aecfc064a822f175dea803edf028b0acaeb4721976ef7627aef34638", func := "tropica/tropicalaw.StreamFeeds", spec := "streamFeeds", unfollowed := true, recurses := true, plainKeys := false, apart := false }
def StreamFeedsSaid : Prop := streamFeedsRow.holds Try.pinned (OpenSpec.ofChange streamFeedsSpec)

/-- ITS FALSE NEIGHBOUR: 'it returns false'. Refute it at one input. -/
def streamFeedsWrong : ChangeSpec := { name := "streamFeeds", fn := fun _ => fun
  | [d1, d2, d3] => { results := [.lit (.bool false)], args := [d1, d2, d3] }
  | _ => none }
def StreamFeedsWrongFalsely : Prop := streamFeedsRow.holds Try.pinned (OpenSpec.ofChange streamFeedsWrong)

/-- 'tropicalaw.CoreBits': WHATEVER THE INPUT: true; the input reads as it did. -/
def coreBitsSpec : ChangeSpec := { name := "coreBits", fn := fun _ => fun
  | [d] => { results := [.lit (.bool true)], args := [d] }
  | _ => none }
def coreBitsRow : OpenClaim := { program := "ytnpbdcjfealoeaa", sum := "74031f69aecfc064a822f175dea803edf028b0acaeb4721976ef7627aef34638", func := "tropica/tropicalaw.CoreBits", spec := "coreBits", unfollowed := true, recurses := true, plainKeys := false, apart := false }
def CoreBitsSaid : Prop := coreBitsRow.holds Try.pinned (OpenSpec.ofChange coreBitsSpec)

/-- ITS FALSE NEIGHBOUR: 'it returns false'. Refute it at one input. -/
def coreBitsWrong : ChangeSpec := { name := "coreBits", fn := fun _ => fun
  | [d] => { results := [.lit (.bool false)], args := [d] }
  | _ => none }
def CoreBitsWrongFalsely : Prop := coreBitsRow.holds Try.pinned (OpenSpec.ofChange coreBitsWrong)

/-- 'tropicalaw.PushPushes': WHATEVER THE INPUT: true; the input reads as it did. -/
def pushPushesSpec : ChangeSpec := { name := "pushPushes", fn := fun _ => fun
  | [d] => { results := [.lit (.bool true)], args := [d] }
  | _ => none }
def pushPushesRow : OpenClaim := { program := "ytnpbdcjfealoeaa", sum := "74031f69aecfc064a822f175dea803edf028b0acaeb4721976ef7627aef34638", func := "tropica/tropicalaw.PushPushes", spec := "pushPushes", unfollowed := true, recurses := true, plainKeys := false, apart := false }
def PushPushesSaid : Prop := pushPushesRow.holds Try.pinned (OpenSpec.ofChange pushPushesSpec)

/-- ITS FALSE NEIGHBOUR: 'it returns false'. Refute it at one input. -/
def pushPushesWrong : ChangeSpec := { name := "pushPushes", fn := fun _ => fun
  | [d] => { results := [.lit (.bool false)], args := [d] }
  | _ => none }
def PushPushesWrongFalsely : Prop := pushPushesRow.holds Try.pinned (OpenSpec.ofChange pushPushesWrong)

/-- 'tropicalaw.BestBests': WHATEVER THE INPUT: true; the input reads as it did. -/
def bestBestsSpec : ChangeSpec := { name := "bestBests", fn := fun _ => fun
  | [d] => { results := [.lit (.bool true)], args := [d] }
  | _ => none }
def bestBestsRow : OpenClaim := { program := "ytnpbdcjfealoeaa", sum := "74031f69aecfc064a822f175dea803edf028b0acaeb4721976ef7627aef34638", func := "tropica/tropicalaw.BestBests", spec := "bestBests", unfollowed := true, recurses := true, plainKeys := false, apart := false }
def BestBestsSaid : Prop := bestBestsRow.holds Try.pinned (OpenSpec.ofChange bestBestsSpec)

/-- ITS FALSE NEIGHBOUR: 'it returns false'. Refute it at one input. -/
def bestBestsWrong : ChangeSpec := { name := "bestBests", fn := fun _ => fun
  | [d] => { results := [.lit (.bool false)], args := [d] }
  | _ => none }
def BestBestsWrongFalsely : Prop := bestBestsRow.holds Try.pinned (OpenSpec.ofChange bestBestsWrong)

/-- 'tropicalaw.TopoOrders': WHATEVER THE INPUT: true; the input reads as it did. -/
def topoOrdersSpec : ChangeSpec := { name := "topoOrders", fn := fun _ => fun
  | [d] => { results := [.lit (.bool true)], args := [d] }
  | _ => none }
def topoOrdersRow : OpenClaim := { program := "ytnpbdcjfealoeaa", sum := "74031f69aecfc064a822f175dea803edf028b0acaeb4721976ef7627aef34638", func := "tropica/tropicalaw.TopoOrders", spec := "topoOrders", unfollowed := true, recurses := true, plainKeys := false, apart := false }
def TopoOrdersSaid : Prop := topoOrdersRow.holds Try.pinned (OpenSpec.ofChange topoOrdersSpec)

/-- ITS FALSE NEIGHBOUR: 'it returns false'. Refute it at one input. -/
def topoOrdersWrong : ChangeSpec := { name := "topoOrders", fn := fun _ => fun
  | [d] => { results := [.lit (.bool false)], args := [d] }
  | _ => none }
def TopoOrdersWrongFalsely : Prop := topoOrdersRow.holds Try.pinned (OpenSpec.ofChange topoOrdersWrong)

/-- 'tropicalaw.TopoPaths': WHATEVER THE INPUT: true; the input reads as it did. -/
def topoPathsSpec : ChangeSpec := { name := "topoPaths", fn := fun _ => fun
  | [d] => { results := [.lit (.bool true)], args := [d] }
  | _ => none }
def topoPathsRow : OpenClaim := { program := "ytnpbdcjfealoeaa", sum := "74031f69aecfc064a822f175dea803edf028b0acaeb4721976ef7627aef34638", func := "tropica/tropicalaw.TopoPaths", spec := "topoPaths", unfollowed := true, recurses := true, plainKeys := false, apart := false }
def TopoPathsSaid : Prop := topoPathsRow.holds Try.pinned (OpenSpec.ofChange topoPathsSpec)

/-- ITS FALSE NEIGHBOUR: 'it returns false'. Refute it at one input. -/
def topoPathsWrong : ChangeSpec := { name := "topoPaths", fn := fun _ => fun
  | [d] => { results := [.lit (.bool false)], args := [d] }
  | _ => none }
def TopoPathsWrongFalsely : Prop := topoPathsRow.holds Try.pinned (OpenSpec.ofChange topoPathsWrong)

/-- 'tropicalaw.TopoLongests': WHATEVER THE INPUT: true; the input reads as it did. -/
def topoLongestsSpec : ChangeSpec := { name := "topoLongests", fn := fun _ => fun
  | [d] => { results := [.lit (.bool true)], args := [d] }
  | _ => none }
def topoLongestsRow : OpenClaim := { program := "ytnpbdcjfealoeaa", sum := "74031f69aecfc064a822f175dea803edf028b0acaeb4721976ef7627aef34638", func := "tropica/tropicalaw.TopoLongests", spec := "topoLongests", unfollowed := true, recurses := true, plainKeys := false, apart := false }
def TopoLongestsSaid : Prop := topoLongestsRow.holds Try.pinned (OpenSpec.ofChange topoLongestsSpec)

/-- ITS FALSE NEIGHBOUR: 'it returns false'. Refute it at one input. -/
def topoLongestsWrong : ChangeSpec := { name := "topoLongests", fn := fun _ => fun
  | [d] => { results := [.lit (.bool false)], args := [d] }
  | _ => none }
def TopoLongestsWrongFalsely : Prop := topoLongestsRow.holds Try.pinned (OpenSpec.ofChange topoLongestsWrong)

/-- 'tropicalaw.WeighWeighs': WHATEVER THE INPUT: true; the input reads as it did. -/
def weighWeighsSpec : ChangeSpec := { name := "weighWeighs", fn := fun _ => fun
  | [d1, d2, d3] => { results := [.lit (.bool true)], args := [d1, d2, d3] }
  | _ => none }
def weighWeighsRow : OpenClaim := { program := "ytnpbdcjfealoeaa", sum := "74031f69aecfc064a822f175dea803edf028b0acaeb4721976ef7627aef34638", func := "tropica/tropicalaw.WeighWeighs", spec := "weighWeighs", unfollowed := true, recurses := true, plainKeys := false, apart := false }
def WeighWeighsSaid : Prop := weighWeighsRow.holds Try.pinned (OpenSpec.ofChange weighWeighsSpec)

/-- ITS FALSE NEIGHBOUR: 'it returns false'. Refute it at one input. -/
def weighWeighsWrong : ChangeSpec := { name := "weighWeighs", fn := fun _ => fun
  | [d1, d2, d3] => { results := [.lit (.bool false)], args := [d1, d2, d3] }
  | _ => none }
def WeighWeighsWrongFalsely : Prop := weighWeighsRow.holds Try.pinned (OpenSpec.ofChange weighWeighsWrong)

/-- 'tropicalaw.WeighReads': WHATEVER THE INPUT: true; the input reads as it did. -/
def weighReadsSpec : ChangeSpec := { name := "weighReads", fn := fun _ => fun
  | [d1, d2] => { results := [.lit (.bool true)], args := [d1, d2] }
  | _ => none }
def weighReadsRow : OpenClaim := { program := "ytnpbdcjfealoeaa", sum := "74031f69aecfc064a822f175dea803edf028b0acaeb4721976ef7627aef34638", func := "tropica/tropicalaw.WeighReads", spec := "weighReads", unfollowed := true, recurses := true, plainKeys := false, apart := false }
def WeighReadsSaid : Prop := weighReadsRow.holds Try.pinned (OpenSpec.ofChange weighReadsSpec)

/-- ITS FALSE NEIGHBOUR: 'it returns false'. Refute it at one input. -/
def weighReadsWrong : ChangeSpec := { name := "weighReads", fn := fun _ => fun
  | [d1, d2] => { results := [.lit (.bool false)], args := [d1, d2] }
  | _ => none }
def WeighReadsWrongFalsely : Prop := weighReadsRow.holds Try.pinned (OpenSpec.ofChange weighReadsWrong)

/-- 'tropicalaw.BestCosts': WHATEVER THE INPUT: true; the input reads as it did. -/
def bestCostsSpec : ChangeSpec := { name := "bestCosts", fn := fun _ => fun
  | [d1, d2] => { results := [.lit (.bool true)], args := [d1, d2] }
  | _ => none }
def bestCostsRow : OpenClaim := { program := "ytnpbdcjfealoeaa", sum := "74031f69aecfc064a822f175dea803edf028b0acaeb4721976ef7627aef34638", func := "tropica/tropicalaw.BestCosts", spec := "bestCosts", unfollowed := true, recurses := true, plainKeys := false, apart := false }
def BestCostsSaid : Prop := bestCostsRow.holds Try.pinned (OpenSpec.ofChange bestCostsSpec)

/-- ITS FALSE NEIGHBOUR: 'it returns false'. Refute it at one input. -/
def bestCostsWrong : ChangeSpec := { name := "bestCosts", fn := fun _ => fun
  | [d1, d2] => { results := [.lit (.bool false)], args := [d1, d2] }
  | _ => none }
def BestCostsWrongFalsely : Prop := bestCostsRow.holds Try.pinned (OpenSpec.ofChange bestCostsWrong)

/- THE SECOND FORM. 'bulk': how many values and letters a reading holds, each counted each time it is reached (what is shared counts as often as it is met; a slice's spare places count too). A statement '..UptoSaid' is the law's where the arguments, and the package variables that the reading takes, are together of bulk at most 1048576: NARROWER than '..Said'. Prove '..Said' where nothing that the law and all that it calls make is longer than what came in: it says more and counts as full. Else prove '..UptoSaid'. A law counts once. -/
mutual
def uptoBulk {H : Type} : DataW H → Nat
  | .lit (.string bytes) => bytes.length + 1
  | .lit _ => 1
  | .nil => 1
  | .ptr d => uptoBulk d + 1
  | .slice elems spare => uptoBulkAll elems + uptoBulkAll spare + 1
  | .agg parts => uptoBulkAll parts + 1
  | .iface _ d => uptoBulk d + 1
  | .map entries => uptoBulkEntries entries + 1
  | .held _ => 1
def uptoBulkAll {H : Type} : List (DataW H) → Nat
  | [] => 0
  | d :: r => uptoBulk d + uptoBulkAll r
def uptoBulkEntries {H : Type} : List (Lit × DataW H) → Nat
  | [] => 0
  | x :: r => uptoBulkEntry x + uptoBulkEntries r
def uptoBulkEntry {H : Type} : Lit × DataW H → Nat
  | (.string bytes, d) => bytes.length + uptoBulk d + 1
  | (_, d) => uptoBulk d + 1
 end
def uptoSmall : (H : Type) → List (DataW H) → Bool := fun _ ds => decide (uptoBulkAll ds ≤ 1048576)
def OpenSpec.upto (s : _root_.Go.ChangeSpec) : _root_.Go.OpenSpec := { _root_.Go.OpenSpec.ofChange s with cond := some uptoSmall }

/-- 'tropicalaw.StreamEnds', WHERE WHAT IT READS IS OF BULK AT MOST 1048576: true; the input reads as it did. -/
def streamEndsUptoRow : OpenClaim := { program := "ytnpbdcjfealoeaa", sum := "74031f69aecfc064a822f175dea803edf028b0acaeb4721976ef7627aef34638", func := "tropica/tropicalaw.StreamEnds", spec := "streamEnds", unfollowed := true, recurses := true, plainKeys := false, apart := false, narrowed := true }
def StreamEndsUptoSaid : Prop := streamEndsUptoRow.holds Try.pinned (OpenSpec.upto streamEndsSpec)

/-- 'tropicalaw.StreamBegins', WHERE WHAT IT READS IS OF BULK AT MOST 1048576: true; the input reads as it did. -/
def streamBeginsUptoRow : OpenClaim := { program := "ytnpbdcjfealoeaa", sum := "74031f69aecfc064a822f175dea803edf028b0acaeb4721976ef7627aef34638", func := "tropica/tropicalaw.StreamBegins", spec := "streamBegins", unfollowed := true, recurses := true, plainKeys := false, apart := false, narrowed := true }
def StreamBeginsUptoSaid : Prop := streamBeginsUptoRow.holds Try.pinned (OpenSpec.upto streamBeginsSpec)

/-- 'tropicalaw.StreamFeeds', WHERE WHAT IT READS IS OF BULK AT MOST 1048576: true; the input reads as it did. -/
def streamFeedsUptoRow : OpenClaim := { program := "ytnpbdcjfealoeaa", sum := "74031f69aecfc064a822f175dea803edf028b0acaeb4721976ef7627aef34638", func := "tropica/tropicalaw.StreamFeeds", spec := "streamFeeds", unfollowed := true, recurses := true, plainKeys := false, apart := false, narrowed := true }
def StreamFeedsUptoSaid : Prop := streamFeedsUptoRow.holds Try.pinned (OpenSpec.upto streamFeedsSpec)

/-- 'tropicalaw.CoreBits', WHERE WHAT IT READS IS OF BULK AT MOST 1048576: true; the input reads as it did. -/
def coreBitsUptoRow : OpenClaim := { program := "ytnpbdcjfealoeaa", sum := "74031f69aecfc064a822f175dea803edf028b0acaeb4721976ef7627aef34638", func := "tropica/tropicalaw.CoreBits", spec := "coreBits", unfollowed := true, recurses := true, plainKeys := false, apart := false, narrowed := true }
def CoreBitsUptoSaid : Prop := coreBitsUptoRow.holds Try.pinned (OpenSpec.upto coreBitsSpec)

/-- 'tropicalaw.PushPushes', WHERE WHAT IT READS IS OF BULK AT MOST 1048576: true; the input reads as it did. -/
def pushPushesUptoRow : OpenClaim := { program := "ytnpbdcjfealoeaa", sum := "74031f69aecfc064a822f175dea803edf028b0acaeb4721976ef7627aef34638", func := "tropica/tropicalaw.PushPushes", spec := "pushPushes", unfollowed := true, recurses := true, plainKeys := false, apart := false, narrowed := true }
def PushPushesUptoSaid : Prop := pushPushesUptoRow.holds Try.pinned (OpenSpec.upto pushPushesSpec)

/-- 'tropicalaw.BestBests', WHERE WHAT IT READS IS OF BULK AT MOST 1048576: true; the input reads as it did. -/
def bestBestsUptoRow : OpenClaim := { program := "ytnpbdcjfealoeaa", sum := "74031f69aecfc064a822f175dea803edf028b0acaeb4721976ef7627aef34638", func := "tropica/tropicalaw.BestBests", spec := "bestBests", unfollowed := true, recurses := true, plainKeys := false, apart := false, narrowed := true }
def BestBestsUptoSaid : Prop := bestBestsUptoRow.holds Try.pinned (OpenSpec.upto bestBestsSpec)

/-- 'tropicalaw.TopoOrders', WHERE WHAT IT READS IS OF BULK AT MOST 1048576: true; the input reads as it did. -/
def topoOrdersUptoRow : OpenClaim := { program := "ytnpbdcjfealoeaa", sum := "74031f69aecfc064a822f175dea803edf028b0acaeb4721976ef7627aef34638", func := "tropica/tropicalaw.TopoOrders", spec := "topoOrders", unfollowed := true, recurses := true, plainKeys := false, apart := false, narrowed := true }
def TopoOrdersUptoSaid : Prop := topoOrdersUptoRow.holds Try.pinned (OpenSpec.upto topoOrdersSpec)

/-- 'tropicalaw.TopoPaths', WHERE WHAT IT READS IS OF BULK AT MOST 1048576: true; the input reads as it did. -/
def topoPathsUptoRow : OpenClaim := { program := "ytnpbdcjfealoeaa", sum := "74031f69aecfc064a822f175dea803edf028b0acaeb4721976ef7627aef34638", func := "tropica/tropicalaw.TopoPaths", spec := "topoPaths", unfollowed := true, recurses := true, plainKeys := false, apart := false, narrowed := true }
def TopoPathsUptoSaid : Prop := topoPathsUptoRow.holds Try.pinned (OpenSpec.upto topoPathsSpec)

/-- 'tropicalaw.TopoLongests', WHERE WHAT IT READS IS OF BULK AT MOST 1048576: true; the input reads as it did. -/
def topoLongestsUptoRow : OpenClaim := { program := "ytnpbdcjfealoeaa", sum := "74031f69aecfc064a822f175dea803edf028b0acaeb4721976ef7627aef34638", func := "tropica/tropicalaw.TopoLongests", spec := "topoLongests", unfollowed := true, recurses := true, plainKeys := false, apart := false, narrowed := true }
def TopoLongestsUptoSaid : Prop := topoLongestsUptoRow.holds Try.pinned (OpenSpec.upto topoLongestsSpec)

/-- 'tropicalaw.WeighWeighs', WHERE WHAT IT READS IS OF BULK AT MOST 1048576: true; the input reads as it did. -/
def weighWeighsUptoRow : OpenClaim := { program := "ytnpbdcjfealoeaa", sum := "74031f69aecfc064a822f175dea803edf028b0acaeb4721976ef7627aef34638", func := "tropica/tropicalaw.WeighWeighs", spec := "weighWeighs", unfollowed := true, recurses := true, plainKeys := false, apart := false, narrowed := true }
def WeighWeighsUptoSaid : Prop := weighWeighsUptoRow.holds Try.pinned (OpenSpec.upto weighWeighsSpec)

/-- 'tropicalaw.WeighReads', WHERE WHAT IT READS IS OF BULK AT MOST 1048576: true; the input reads as it did. -/
def weighReadsUptoRow : OpenClaim := { program := "ytnpbdcjfealoeaa", sum := "74031f69aecfc064a822f175dea803edf028b0acaeb4721976ef7627aef34638", func := "tropica/tropicalaw.WeighReads", spec := "weighReads", unfollowed := true, recurses := true, plainKeys := false, apart := false, narrowed := true }
def WeighReadsUptoSaid : Prop := weighReadsUptoRow.holds Try.pinned (OpenSpec.upto weighReadsSpec)

/-- 'tropicalaw.BestCosts', WHERE WHAT IT READS IS OF BULK AT MOST 1048576: true; the input reads as it did. -/
def bestCostsUptoRow : OpenClaim := { program := "ytnpbdcjfealoeaa", sum := "74031f69aecfc064a822f175dea803edf028b0acaeb4721976ef7627aef34638", func := "tropica/tropicalaw.BestCosts", spec := "bestCosts", unfollowed := true, recurses := true, plainKeys := false, apart := false, narrowed := true }
def BestCostsUptoSaid : Prop := bestCostsUptoRow.holds Try.pinned (OpenSpec.upto bestCostsSpec)

end Rows
end Go.Proofs.Ytnpbdcjfealoeaa
