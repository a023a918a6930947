/-
  No cell of these rows narrows 'for every input' (looked for: loops, veiled, ifaces, maps, wideKeys, modest, calm, conditions, laid).
  DERIVED. THE GIVEN ROWS OF THIS SEAT. 8 by the template 'for every input the law returns true; each argument reads behind the call as it read before'; 0 by the template 'total and deterministic' (their statements: YtjbldphpkkmdpaaTotals.lean).
  GIVEN WITH THE SEED: the statements are not yours to turn. If you find one false, say at which input.
  Laid BY PROGRAM, IN A SANDBOX (cutbox-rows.mjs): the forced cells as the released guide's own fill.sh prints them over the translation edb1cf9f878aca0a… (all of the seat's roots in one cut). By AI agents, Wed Nov 11 2026. No macro, syntax, notation, axiom, sorry.
-/
import Derived.Test.YtjbldphpkkmdpaaChecked
import GoSem.Claim
import GoSem.ClaimJoined
import GoSem.ClaimMapViews
import Derived.JoinedTies
import Derived.KernelRfl
namespace Go.Proofs.Ytjbldphpkkmdpaa
/- THE CELL 'sum', in the pinned program and in every row, IS THE sha256 OF THE DUMP (.gsa) THAT YtjbldphpkkmdpaaProg.lean LOADS. Nothing in Lean hashes anything: it is a label: what it is worth is what the hold of that sum in a sandbox is worth. -/
noncomputable def Try.pinned : Pinned := { name := "ytjbldphpkkmdpaa", sum := "edb1cf9f878aca0a57a9f6779a3b52cb2ec49247727d5b102096441af35b5536", checked := Try.checked }
namespace Rows
def none {H : Type} : Left H := { results := [], args := [] }

/-- 'tropicalaw.ArrangeSorts': WHATEVER THE INPUT: true; the input reads as it did. -/
def arrangeSortsSpec : ChangeSpec := { name := "arrangeSorts", fn := fun _ => fun
  | [d] => { results := [.lit (.bool true)], args := [d] }
  | _ => none }
def arrangeSortsRow : OpenClaim := { program := "ytjbldphpkkmdpaa", sum := "edb1cf9f878aca0a57a9f6779a3b52cb2ec49247727d5b102096441af35b5536", func := "tropica/tropicalaw.ArrangeSorts", spec := "arrangeSorts", unfollowed := true, recurses := true, plainKeys := false, apart := false }
def ArrangeSortsSaid : Prop := arrangeSortsRow.holds Try.pinned (OpenSpec.ofChange arrangeSortsSpec)

/-- ITS FALSE NEIGHBOUR: 'it returns false'. Refute it at one input. -/
def arrangeSortsWrong : ChangeSpec := { name := "arrangeSorts", fn := fun _ => fun
  | [d] => { results := [.lit (.bool false)], args := [d] }
  | _ => none }
def ArrangeSortsWrongFalsely : Prop := arrangeSortsRow.holds Try.pinned (OpenSpec.ofChange arrangeSortsWrong)

/-- 'tropicalaw.ArrangeByOuts': WHATEVER THE INPUT: true; the input reads as it did. -/
def arrangeByOutsSpec : ChangeSpec := { name := "arrangeByOuts", fn := fun _ => fun
  | [d] => { results := [.lit (.bool true)], args := [d] }
  | _ => none }
def arrangeByOutsRow : OpenClaim := { program := "ytjbldphpkkmdpaa", sum := "edb1cf9f878aca0a57a9f6779a3b52cb2ec49247727d5b102096441af35b5536", func := "tropica/tropicalaw.ArrangeByOuts", spec := "arrangeByOuts", unfollowed := true, recurses := true, plainKeys := false, apart := false }
def ArrangeByOutsSaid : Prop := arrangeByOutsRow.holds Try.pinned (OpenSpec.ofChange arrangeByOutsSpec)

/-- ITS FALSE NEIGHBOUR: 'it returns false'. Refute it at one input. -/
def arrangeByOutsWrong : ChangeSpec := { name := "arrangeByOuts", fn := fun _ => fun
  | [d] => { results := [.lit (.bool false)], args := [d] }
  | _ => none }
def ArrangeByOutsWrongFalsely : Prop := arrangeByOutsRow.holds Try.pinned (OpenSpec.ofChange arrangeByOutsWrong)

/-- 'tropicalaw.ArrangeMerges': WHATEVER THE INPUT: true; the input reads as it did. -/
def arrangeMergesSpec : ChangeSpec := { name := "arrangeMerges", fn := fun _ => fun
  | [d] => { results := [.lit (.bool true)], args := [d] }
  | _ => none }
def arrangeMergesRow : OpenClaim := { program := "ytjbldphpkkmdpaa", sum := "edb1cf9f878aca0a57a9f6779a3b52cb2ec49247727d5b102096441af35b5536", func := "tropica/tropicalaw.ArrangeMerges", spec := "arrangeMerges", unfollowed := true, recurses := true, plainKeys := false, apart := false }
def ArrangeMergesSaid : Prop := arrangeMergesRow.holds Try.pinned (OpenSpec.ofChange arrangeMergesSpec)

/-- ITS FALSE NEIGHBOUR: 'it returns false'. Refute it at one input. -/
def arrangeMergesWrong : ChangeSpec := { name := "arrangeMerges", fn := fun _ => fun
  | [d] => { results := [.lit (.bool false)], args := [d] }
  | _ => none }
def ArrangeMergesWrongFalsely : Prop := arrangeMergesRow.holds Try.pinned (OpenSpec.ofChange arrangeMergesWrong)

/-- 'tropicalaw.EmptiesRemoves': WHATEVER THE INPUT: true; the input reads as it did. -/
def emptiesRemovesSpec : ChangeSpec := { name := "emptiesRemoves", fn := fun _ => fun
  | [d] => { results := [.lit (.bool true)], args := [d] }
  | _ => none }
def emptiesRemovesRow : OpenClaim := { program := "ytjbldphpkkmdpaa", sum := "edb1cf9f878aca0a57a9f6779a3b52cb2ec49247727d5b102096441af35b5536", func := "tropica/tropicalaw.EmptiesRemoves", spec := "emptiesRemoves", unfollowed := true, recurses := true, plainKeys := false, apart := false }
def EmptiesRemovesSaid : Prop := emptiesRemovesRow.holds Try.pinned (OpenSpec.ofChange emptiesRemovesSpec)

/-- ITS FALSE NEIGHBOUR: 'it returns false'. Refute it at one input. -/
def emptiesRemovesWrong : ChangeSpec := { name := "emptiesRemoves", fn := fun _ => fun
  | [d] => { results := [.lit (.bool false)], args := [d] }
  | _ => none }
def EmptiesRemovesWrongFalsely : Prop := emptiesRemovesRow.holds Try.pinned (OpenSpec.ofChange emptiesRemovesWrong)

/-- 'tropicalaw.PushPushes': WHATEVER THE INPUT: true; the input reads as it did. -/
def pushPushesSpec : ChangeSpec := { name := "pushPushes", fn := fun _ => fun
  | [d] => { results := [.lit (.bool true)], args := [d] }
  | _ => none }
def pushPushesRow : OpenClaim := { program := "ytjbldphpkkmdpaa", sum := "edb1cf9f878aca0a57a9f6779a3b52cb2ec49247727d5b102096441af35b5536", func := "tropica/tropicalaw.PushPushes", spec := "pushPushes", unfollowed := true, recurses := true, plainKeys := false, apart := false }
def PushPushesSaid : Prop := pushPushesRow.holds Try.pinned (OpenSpec.ofChange pushPushesSpec)

/-- ITS FALSE NEIGHBOUR: 'it returns false'. Refute it at one input. -/
def pushPushesWrong : ChangeSpec := { name := "pushPushes", fn := fun _ => fun
  | [d] => { results := [.lit (.bool false)], args := [d] }
  | _ => none }
def PushPushesWrongFalsely : Prop := pushPushesRow.holds Try.pinned (OpenSpec.ofChange pushPushesWrong)

/-- 'tropicalaw.StreamBegins': WHATEVER THE INPUT: true; the input reads as it did. -/
def streamBeginsSpec : ChangeSpec := { name := "streamBegins", fn := fun _ => fun
  | [d] => { results := [.lit (.bool true)], args := [d] }
  | _ => none }
def streamBeginsRow : OpenClaim := { program := "ytjbldphpkkmdpaa", sum := "edb1cf9f878aca0a57a9f6779a3b52cb2ec49247727d5b102096441af35b5536", func := "tropica/tropicalaw.StreamBegins", spec := "streamBegins", unfollowed := true, recurses := true, plainKeys := false, apart := false }
def StreamBeginsSaid : Prop := streamBeginsRow.holds Try.pinned (OpenSpec.ofChange streamBeginsSpec)

/-- ITS FALSE NEIGHBOUR: 'it returns false'. Refute it at one input. -/
def streamBeginsWrong : ChangeSpec := { name := "streamBegins", fn := fun _ => fun
  | [d] => { results := [.lit (.bool false)], args := [d] }
  | _ => none }
def StreamBeginsWrongFalsely : Prop := streamBeginsRow.holds Try.pinned (OpenSpec.ofChange streamBeginsWrong)

/-- 'tropicalaw.StreamFeeds': WHATEVER THE INPUT: true; the input reads as it did. -/
def streamFeedsSpec : ChangeSpec := { name := "streamFeeds", fn := fun _ => fun
  | [d1, d2, d3] => { results := [.lit (.bool true)], args := [d1, d2, d3] }
  | _ => none }
def streamFeedsRow : OpenClaim := { program := "ytjbldphpkkmdpaa", sum := "edb1cf9f878aca0a57a9f6779a3b52cb2ec49247727d5b102096441af35b5536", func := "tropica/tropicalaw.StreamFeeds", spec := "streamFeeds", unfollowed := true, recurses := true, plainKeys := false, apart := false }
def StreamFeedsSaid : Prop := streamFeedsRow.holds Try.pinned (OpenSpec.ofChange streamFeedsSpec)

/-- ITS FALSE NEIGHBOUR: 'it returns false'. Refute it at one input. -/
def streamFeedsWrong : ChangeSpec := { name := "streamFeeds", fn := fun _ => fun
  | [d1, d2, d3] => { results := [.lit (.bool false)], args := [d1, d2, d3] }
  | _ => none }
def StreamFeedsWrongFalsely : Prop := streamFeedsRow.holds Try.pinned (OpenSpec.ofChange streamFeedsWrong)

/-- 'tropicalaw.PackedEncodes': WHATEVER THE INPUT: true; the input reads as it did. -/
def packedEncodesSpec : ChangeSpec := { name := "packedEncodes", fn := fun _ => fun
  | [d] => { results := [.lit (.bool true)], args := [d] }
  | _ => none }
def packedEncodesRow : OpenClaim := { program := "ytjbldphpkkmdpaa", sum := "edb1cf9f878aca0a57a9f6779a3b52cb2ec49247727d5b102096441af35b5536", func := "tropica/tropicalaw.PackedEncodes", spec := "packedEncodes", unfollowed := true, recurses := true, plainKeys := false, apart := false }
def PackedEncodesSaid : Prop := packedEncodesRow.holds Try.pinned (OpenSpec.ofChange packedEncodesSpec)

/-- ITS FALSE NEIGHBOUR: 'it returns false'. Refute it at one input. -/
def packedEncodesWrong : ChangeSpec := { name := "packedEncodes", fn := fun _ => fun
  | [d] => { results := [.lit (.bool false)], args := [d] }
  | _ => none }
def PackedEncodesWrongFalsely : Prop := packedEncodesRow.holds Try.pinned (OpenSpec.ofChange packedEncodesWrong)

/- THE SECOND FORM. 'bulk': how many values and letters a reading holds, each counted each time it is reached (what is shared counts as often as it is met; a slice's spare places count too). A statement '..UptoSaid' is the law's where the arguments, and the package variables that the reading takes, are together of bulk at most 1048576: NARROWER than '..Said'. Prove '..Said' where nothing that the law and all that it calls make is longer than what came in: it says more and counts as full. Else prove '..UptoSaid'. A law counts once. -/
mutual
def uptoBulk {H : Type} : DataW H → Nat
  | .lit (.string bytes) => bytes.length + 1
  | .lit _ => 1
  | .nil => 1
  | .ptr d => uptoBulk d + 1
  | .slice elems spare => uptoBulkAll elems + uptoBulkAll spare + 1
  | .agg parts => uptoBulkAll parts + 1
  | .iface _ d => uptoBulk d + 1
  | .map entries => uptoBulkEntries entries + 1
  | .held _ => 1
def uptoBulkAll {H : Type} : List (DataW H) → Nat
  | [] => 0
  | d :: r => uptoBulk d + uptoBulkAll r
def uptoBulkEntries {H : Type} : List (Lit × DataW H) → Nat
  | [] => 0
  | x :: r => uptoBulkEntry x + uptoBulkEntries r
def uptoBulkEntry {H : Type} : Lit × DataW H → Nat
  | (.string bytes, d) => bytes.length + uptoBulk d + 1
  | (_, d) => uptoBulk d + 1
 end
def uptoSmall : (H : Type) → List (DataW H) → Bool := fun _ ds => decide (uptoBulkAll ds ≤ 1048576)
def OpenSpec.upto (s : _root_.Go.ChangeSpec) : _root_.Go.OpenSpec := { _root_.Go.OpenSpec.ofChange s with cond := some uptoSmall }

/-- 'tropicalaw.ArrangeSorts', WHERE WHAT IT READS IS OF BULK AT MOST 1048576: true; the input reads as it did. -/
def arrangeSortsUptoRow : OpenClaim := { program := "ytjbldphpkkmdpaa", sum := "edb1cf9f878aca0a57a9f6779a3b52cb2ec49247727d5b102096441af35b5536", func := "tropica/tropicalaw.ArrangeSorts", spec := "arrangeSorts", unfollowed := true, recurses := true, plainKeys := false, apart := false, narrowed := true }
def ArrangeSortsUptoSaid : Prop := arrangeSortsUptoRow.holds Try.pinned (OpenSpec.upto arrangeSortsSpec)

/-- 'tropicalaw.ArrangeByOuts', WHERE WHAT IT READS IS OF BULK AT MOST 1048576: true; the input reads as it did. -/
def arrangeByOutsUptoRow : OpenClaim := { program := "ytjbldphpkkmdpaa", sum := "edb1cf9f878aca0a57a9f6779a3b52cb2ec49247727d5b102096441af35b5536", func := "tropica/tropicalaw.ArrangeByOuts", spec := "arrangeByOuts", unfollowed := true, recurses := true, plainKeys := false, apart := false, narrowed := true }
def ArrangeByOutsUptoSaid : Prop := arrangeByOutsUptoRow.holds Try.pinned (OpenSpec.upto arrangeByOutsSpec)

/-- 'tropicalaw.ArrangeMerges', WHERE WHAT IT READS IS OF BULK AT MOST 1048576: true; the input reads as it did. -/
def arrangeMergesUptoRow : OpenClaim := { program := "ytjbldphpkkmdpaa", sum := "edb1cf9f878aca0a57a9f6779a3b52cb2ec49247727d5b102096441af35b5536", func := "tropica/tropicalaw.ArrangeMerges", spec := "arrangeMerges", unfollowed := true, recurses := true, plainKeys := false, apart := false, narrowed := true }
def ArrangeMergesUptoSaid : Prop := arrangeMergesUptoRow.holds Try.pinned (OpenSpec.upto arrangeMergesSpec)

/-- 'tropicalaw.EmptiesRemoves', WHERE WHAT IT READS IS OF BULK AT MOST 1048576: true; the input reads as it did. -/
def emptiesRemovesUptoRow : OpenClaim := { program := "ytjbldphpkkmdpaa", sum := "edb1cf9f878aca0a57a9f6779a3b52cb2ec49247727d5b102096441af35b5536", func := "tropica/tropicalaw.EmptiesRemoves", spec := "emptiesRemoves", unfollowed := true, recurses := true, plainKeys := false, apart := false, narrowed := true }
def EmptiesRemovesUptoSaid : Prop := emptiesRemovesUptoRow.holds Try.pinned (OpenSpec.upto emptiesRemovesSpec)

/-- 'tropicalaw.PushPushes', WHERE WHAT IT READS IS OF BULK AT MOST 1048576: true; the input reads as it did. -/
def pushPushesUptoRow : OpenClaim := { program := "ytjbldphpkkmdpaa", sum := "edb1cf9f878aca0a57a9f6779a3b52cb2ec49247727d5b102096441af35b5536", func := "tropica/tropicalaw.PushPushes", spec := "pushPushes", unfollowed := true, recurses := true, plainKeys := false, apart := false, narrowed := true }
def PushPushesUptoSaid : Prop := pushPushesUptoRow.holds Try.pinned (OpenSpec.upto pushPushesSpec)

/-- 'tropicalaw.StreamBegins', WHERE WHAT IT READS IS OF BULK AT MOST 1048576: true; the input reads as it did. -/
def streamBeginsUptoRow : OpenClaim := { program := "ytjbldphpkkmdpaa", sum := "edb1cf9f878aca0a57a9f6779a3b52cb2ec49247727d5b102096441af35b5536", func := "tropica/tropicalaw.StreamBegins", spec := "streamBegins", unfollowed := true, recurses := true, plainKeys := false, apart := false, narrowed := true }
def StreamBeginsUptoSaid : Prop := streamBeginsUptoRow.holds Try.pinned (OpenSpec.upto streamBeginsSpec)

/-- 'tropicalaw.StreamFeeds', WHERE WHAT IT READS IS OF BULK AT MOST 1048576: true; the input reads as it did. -/
def streamFeedsUptoRow : OpenClaim := { program := "ytjbldphpkkmdpaa", sum := "edb1cf9f878aca0a57a9f6779a3b52cb2ec49247727d5b102096441af35b5536", func := "tropica/tropicalaw.StreamFeeds", spec := "streamFeeds", unfollowed := true, recurses := true, plainKeys := false, apart := false, narrowed := true }
def StreamFeedsUptoSaid : Prop := streamFeedsUptoRow.holds Try.pinned (OpenSpec.upto streamFeedsSpec)

/-- 'tropicalaw.PackedEncodes', WHERE WHAT IT READS IS OF BULK AT MOST 1048576: true; the input reads as it did. -/
def packedEncodesUptoRow : OpenClaim := { program := "ytjbldphpkkmdpaa", sum := "edb1cf9f878aca0a57a9f6779a3b52cb2ec49247727d5b102096441af35b5536", func := "tropica/tropicalaw.PackedEncodes", spec := "packedEncodes", unfollowed := true, recurses := true, plainKeys := false, apart := false, narrowed := true }
def PackedEncodesUptoSaid : Prop := packedEncodesUptoRow.holds Try.pinned (OpenSpec.upto packedEncodesSpec)

end Rows
end Go.Proofs.Ytjbldphpkkmdpaa
