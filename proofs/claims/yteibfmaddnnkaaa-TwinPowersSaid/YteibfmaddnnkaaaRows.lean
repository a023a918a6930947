/-
  No cell of these rows narrows 'for every input' (looked for: loops, veiled, ifaces, maps, wideKeys, modest, calm, conditions, laid).
  DERIVED. THE GIVEN ROWS OF THIS SEAT. 7 by the template 'for every input the law returns true; each argument reads behind the call as it read before'; 0 by the template 'total and deterministic' (their statements: YteibfmaddnnkaaaTotals.lean).
  GIVEN WITH THE SEED: the statements are not yours to turn. If you find one false, say at which input.
  Laid BY PROGRAM, IN A SANDBOX (cutbox-rows.mjs): the forced cells as the released guide's own fill.sh prints them over the translation 691c7296ff0fb6e3… (all of the seat's roots in one cut). By AI agents, Wed Nov 11 2026. No macro, syntax, notation, axiom, sorry.
-/
import Derived.Test.YteibfmaddnnkaaaChecked
import GoSem.Claim
import GoSem.ClaimJoined
import GoSem.ClaimMapViews
import Derived.JoinedTies
import Derived.KernelRfl
namespace Go.Proofs.Yteibfmaddnnkaaa
/- THE CELL 'sum', in the pinned program and in every row, IS THE sha256 OF THE DUMP (.gsa) THAT YteibfmaddnnkaaaProg.lean LOADS. Nothing in Lean hashes anything: it is a label: what it is worth is what the hold of that sum in a sandbox is worth. -/
noncomputable def Try.pinned : Pinned := { name := "yteibfmaddnnkaaa", sum := "691c7296ff0fb6e3358b0a0d362becd15e5c4ec1bbe83b49666fb899f12b92ef", checked := Try.checked }
namespace Rows
def none {H : Type} : Left H := { results := [], args := [] }

/-- 'tropicalaw.TurnRelabels': WHATEVER THE INPUT: true; the input reads as it did. -/
def turnRelabelsSpec : ChangeSpec := { name := "turnRelabels", fn := fun _ => fun
  | [d1, d2, d3] => { results := [.lit (.bool true)], args := [d1, d2, d3] }
  | _ => none }
def turnRelabelsRow : OpenClaim := { program := "yteibfmaddnnkaaa", sum := "691c7296ff0fb6e3358b0a0d362becd15e5c4ec1bbe83b49666fb899f12b92ef", func := "tropica/tropicalaw.TurnRelabels", spec := "turnRelabels", unfollowed := true, recurses := true, plainKeys := false, apart := false }
def TurnRelabelsSaid : Prop := turnRelabelsRow.holds Try.pinned (OpenSpec.ofChange turnRelabelsSpec)

/-- ITS FALSE NEIGHBOUR: 'it returns false'. Refute it at one input. -/
def turnRelabelsWrong : ChangeSpec := { name := "turnRelabels", fn := fun _ => fun
  | [d1, d2, d3] => { results := [.lit (.bool false)], args := [d1, d2, d3] }
  | _ => none }
def TurnRelabelsWrongFalsely : Prop := turnRelabelsRow.holds Try.pinned (OpenSpec.ofChange turnRelabelsWrong)

/-- 'tropicalaw.ComposeComposes': WHATEVER THE INPUT: true; the input reads as it did. -/
def composeComposesSpec : ChangeSpec := { name := "composeComposes", fn := fun _ => fun
  | [d1, d2] => { results := [.lit (.bool true)], args := [d1, d2] }
  | _ => none }
def composeComposesRow : OpenClaim := { program := "yteibfmaddnnkaaa", sum := "691c7296ff0fb6e3358b0a0d362becd15e5c4ec1bbe83b49666fb899f12b92ef", func := "tropica/tropicalaw.ComposeComposes", spec := "composeComposes", unfollowed := true, recurses := true, plainKeys := false, apart := false }
def ComposeComposesSaid : Prop := composeComposesRow.holds Try.pinned (OpenSpec.ofChange composeComposesSpec)

/-- ITS FALSE NEIGHBOUR: 'it returns false'. Refute it at one input. -/
def composeComposesWrong : ChangeSpec := { name := "composeComposes", fn := fun _ => fun
  | [d1, d2] => { results := [.lit (.bool false)], args := [d1, d2] }
  | _ => none }
def ComposeComposesWrongFalsely : Prop := composeComposesRow.holds Try.pinned (OpenSpec.ofChange composeComposesWrong)

/-- 'tropicalaw.PushPushes': WHATEVER THE INPUT: true; the input reads as it did. -/
def pushPushesSpec : ChangeSpec := { name := "pushPushes", fn := fun _ => fun
  | [d] => { results := [.lit (.bool true)], args := [d] }
  | _ => none }
def pushPushesRow : OpenClaim := { program := "yteibfmaddnnkaaa", sum := "691c7296ff0fb6e3358b0a0d362becd15e5c4ec1bbe83b49666fb899f12b92ef", func := "tropica/tropicalaw.PushPushes", spec := "pushPushes", unfollowed := true, recurses := true, plainKeys := false, apart := false }
def PushPushesSaid : Prop := pushPushesRow.holds Try.pinned (OpenSpec.ofChange pushPushesSpec)

/-- ITS FALSE NEIGHBOUR: 'it returns false'. Refute it at one input. -/
def pushPushesWrong : ChangeSpec := { name := "pushPushes", fn := fun _ => fun
  | [d] => { results := [.lit (.bool false)], args := [d] }
  | _ => none }
def PushPushesWrongFalsely : Prop := pushPushesRow.holds Try.pinned (OpenSpec.ofChange pushPushesWrong)

/-- 'tropicalaw.StreamEnds': WHATEVER THE INPUT: true; the input reads as it did. -/
def streamEndsSpec : ChangeSpec := { name := "streamEnds", fn := fun _ => fun
  | [d1, d2] => { results := [.lit (.bool true)], args := [d1, d2] }
  | _ => none }
def streamEndsRow : OpenClaim := { program := "yteibfmaddnnkaaa", sum := "691c7296ff0fb6e3358b0a0d362becd15e5c4ec1bbe83b49666fb899f12b92ef", func := "tropica/tropicalaw.StreamEnds", spec := "streamEnds", unfollowed := true, recurses := true, plainKeys := false, apart := false }
def StreamEndsSaid : Prop := streamEndsRow.holds Try.pinned (OpenSpec.ofChange streamEndsSpec)

/-- ITS FALSE NEIGHBOUR: 'it returns false'. Refute it at one input. -/
def streamEndsWrong : ChangeSpec := { name := "streamEnds", fn := fun _ => fun
  | [d1, d2] => { results := [.lit (.bool false)], args := [d1, d2] }
  | _ => none }
def StreamEndsWrongFalsely : Prop := streamEndsRow.holds Try.pinned (OpenSpec.ofChange streamEndsWrong)

/-- 'tropicalaw.TwinPowers': WHATEVER THE INPUT: true; the input reads as it did. -/
def twinPowersSpec : ChangeSpec := { name := "twinPowers", fn := fun _ => fun
  | [d1, d2] => { results := [.lit (.bool true)], args := [d1, d2] }
  | _ => none }
def twinPowersRow : OpenClaim := { program := "yteibfmaddnnkaaa", sum := "691c7296ff0fb6e3358b0a0d362becd15e5c4ec1bbe83b49666fb899f12b92ef", func := "tropica/tropicalaw.TwinPowers", spec := "twinPowers", unfollowed := true, recurses := true, plainKeys := false, apart := false }
def TwinPowersSaid : Prop := twinPowersRow.holds Try.pinned (OpenSpec.ofChange twinPowersSpec)

/-- ITS FALSE NEIGHBOUR: 'it returns false'. Refute it at one input. -/
def twinPowersWrong : ChangeSpec := { name := "twinPowers", fn := fun _ => fun
  | [d1, d2] => { results := [.lit (.bool false)], args := [d1, d2] }
  | _ => none }
def TwinPowersWrongFalsely : Prop := twinPowersRow.holds Try.pinned (OpenSpec.ofChange twinPowersWrong)

/-- 'tropicalaw.CoreBits': WHATEVER THE INPUT: true; the input reads as it did. -/
def coreBitsSpec : ChangeSpec := { name := "coreBits", fn := fun _ => fun
  | [d] => { results := [.lit (.bool true)], args := [d] }
  | _ => none }
def coreBitsRow : OpenClaim := { program := "yteibfmaddnnkaaa", sum := "691c7296ff0fb6e3358b0a0d362becd15e5c4ec1bbe83b49666fb899f12b92ef", func := "tropica/tropicalaw.CoreBits", spec := "coreBits", unfollowed := true, recurses := true, plainKeys := false, apart := false }
def CoreBitsSaid : Prop := coreBitsRow.holds Try.pinned (OpenSpec.ofChange coreBitsSpec)

/-- ITS FALSE NEIGHBOUR: 'it returns false'. Refute it at one input. -/
def coreBitsWrong : ChangeSpec := { name := "coreBits", fn := fun _ => fun
  | [d] => { results := [.lit (.bool false)], args := [d] }
  | _ => none }
def CoreBitsWrongFalsely : Prop := coreBitsRow.holds Try.pinned (OpenSpec.ofChange coreBitsWrong)

/-- 'tropicalaw.StreamBegins': WHATEVER THE INPUT: true; the input reads as it did. -/
def streamBeginsSpec : ChangeSpec := { name := "streamBegins", fn := fun _ => fun
  | [d] => { results := [.lit (.bool true)], args := [d] }
  | _ => none }
def streamBeginsRow : OpenClaim := { program := "yteibfmaddnnkaaa", sum := "691c7296ff0fb6e3358b0a0d362becd15e5c4ec1bbe83b49666fb899f12b92ef", func := "tropica/tropicalaw.StreamBegins", spec := "streamBegins", unfollowed := true, recurses := true, plainKeys := false, apart := false }
def StreamBeginsSaid : Prop := streamBeginsRow.holds Try.pinned (OpenSpec.ofChange streamBeginsSpec)

/-- ITS FALSE NEIGHBOUR: 'it returns false'. Refute it at one input. -/
def streamBeginsWrong : ChangeSpec := { name := "streamBegins", fn := fun _ => fun
  | [d] => { results := [.lit (.bool false)], args := [d] }
  | _ => none }
def StreamBeginsWrongFalsely : Prop := streamBeginsRow.holds Try.pinned (OpenSpec.ofChange streamBeginsWrong)

/- THE SECOND FORM. 'bulk': how many values and letters a reading holds, each counted each time it is reached (what is shared counts as often as it is met; a slice's spare places count too). A statement '..UptoSaid' is the law's where the arguments, and the package variables that the reading takes, are together of bulk at most 1048576: NARROWER than '..Said'. Prove '..Said' where nothing that the law and all that it calls make is longer than what came in: it says more and counts as full. Else prove '..UptoSaid'. A law counts once. -/
mutual
def uptoBulk {H : Type} : DataW H → Nat
  | .lit (.string bytes) => bytes.length + 1
  | .lit _ => 1
  | .nil => 1
  | .ptr d => uptoBulk d + 1
  | .slice elems spare => uptoBulkAll elems + uptoBulkAll spare + 1
  | .agg parts => uptoBulkAll parts + 1
  | .iface _ d => uptoBulk d + 1
  | .map entries => uptoBulkEntries entries + 1
  | .held _ => 1
def uptoBulkAll {H : Type} : List (DataW H) → Nat
  | [] => 0
  | d :: r => uptoBulk d + uptoBulkAll r
def uptoBulkEntries {H : Type} : List (Lit × DataW H) → Nat
  | [] => 0
  | x :: r => uptoBulkEntry x + uptoBulkEntries r
def uptoBulkEntry {H : Type} : Lit × DataW H → Nat
  | (.string bytes, d) => bytes.length + uptoBulk d + 1
  | (_, d) => uptoBulk d + 1
 end
def uptoSmall : (H : Type) → List (DataW H) → Bool := fun _ ds => decide (uptoBulkAll ds ≤ 1048576)
def OpenSpec.upto (s : _root_.Go.ChangeSpec) : _root_.Go.OpenSpec := { _root_.Go.OpenSpec.ofChange s with cond := some uptoSmall }

/-- 'tropicalaw.TurnRelabels', WHERE WHAT IT READS IS OF BULK AT MOST 1048576: true; the input reads as it did. -/
def turnRelabelsUptoRow : OpenClaim := { program := "yteibfmaddnnkaaa", sum := "691c7296ff0fb6e3358b0a0d362becd15e5c4ec1bbe83b49666fb899f12b92ef", func := "tropica/tropicalaw.TurnRelabels", spec := "turnRelabels", unfollowed := true, recurses := true, plainKeys := false, apart := false, narrowed := true }
def TurnRelabelsUptoSaid : Prop := turnRelabelsUptoRow.holds Try.pinned (OpenSpec.upto turnRelabelsSpec)

/-- 'tropicalaw.ComposeComposes', WHERE WHAT IT READS IS OF BULK AT MOST 1048576: true; the input reads as it did. -/
def composeComposesUptoRow : OpenClaim := { program := "yteibfmaddnnkaaa", sum := "691c7296ff0fb6e3358b0a0d362becd15e5c4ec1bbe83b49666fb899f12b92ef", func := "tropica/tropicalaw.ComposeComposes", spec := "composeComposes", unfollowed := true, recurses := true, plainKeys := false, apart := false, narrowed := true }
def ComposeComposesUptoSaid : Prop := composeComposesUptoRow.holds Try.pinned (OpenSpec.upto composeComposesSpec)

/-- 'tropicalaw.PushPushes', WHERE WHAT IT READS IS OF BULK AT MOST 1048576: true; the input reads as it did. -/
def pushPushesUptoRow : OpenClaim := { program := "yteibfmaddnnkaaa", sum := "691c7296ff0fb6e3358b0a0d362becd15e5c4ec1bbe83b49666fb899f12b92ef", func := "tropica/tropicalaw.PushPushes", spec := "pushPushes", unfollowed := true, recurses := true, plainKeys := false, apart := false, narrowed := true }
def PushPushesUptoSaid : Prop := pushPushesUptoRow.holds Try.pinned (OpenSpec.upto pushPushesSpec)

/-- 'tropicalaw.StreamEnds', WHERE WHAT IT READS IS OF BULK AT MOST 1048576: true; the input reads as it did. -/
def streamEndsUptoRow : OpenClaim := { program := "yteibfmaddnnkaaa", sum := "691c7296ff0fb6e3358b0a0d362becd15e5c4ec1bbe83b49666fb899f12b92ef", func := "tropica/tropicalaw.StreamEnds", spec := "streamEnds", unfollowed := true, recurses := true, plainKeys := false, apart := false, narrowed := true }
def StreamEndsUptoSaid : Prop := streamEndsUptoRow.holds Try.pinned (OpenSpec.upto streamEndsSpec)

/-- 'tropicalaw.TwinPowers', WHERE WHAT IT READS IS OF BULK AT MOST 1048576: true; the input reads as it did. -/
def twinPowersUptoRow : OpenClaim := { program := "yteibfmaddnnkaaa", sum := "691c7296ff0fb6e3358b0a0d362becd15e5c4ec1bbe83b49666fb899f12b92ef", func := "tropica/tropicalaw.TwinPowers", spec := "twinPowers", unfollowed := true, recurses := true, plainKeys := false, apart := false, narrowed := true }
def TwinPowersUptoSaid : Prop := twinPowersUptoRow.holds Try.pinned (OpenSpec.upto twinPowersSpec)

/-- 'tropicalaw.CoreBits', WHERE WHAT IT READS IS OF BULK AT MOST 1048576: true; the input reads as it did. -/
def coreBitsUptoRow : OpenClaim := { program := "yteibfmaddnnkaaa", sum := "691c7296ff0fb6e3358b0a0d362becd15e5c4ec1bbe83b49666fb899f12b92ef", func := "tropica/tropicalaw.CoreBits", spec := "coreBits", unfollowed := true, recurses := true, plainKeys := false, apart := false, narrowed := true }
def CoreBitsUptoSaid : Prop := coreBitsUptoRow.holds Try.pinned (OpenSpec.upto coreBitsSpec)

/-- 'tropicalaw.StreamBegins', WHERE WHAT IT READS IS OF BULK AT MOST 1048576: true; the input reads as it did. -/
def streamBeginsUptoRow : OpenClaim := { program := "yteibfmaddnnkaaa", sum := "691c7296ff0fb6e3358b0a0d362becd15e5c4ec1bbe83b49666fb899f12b92ef", func := "tropica/tropicalaw.StreamBegins", spec := "streamBegins", unfollowed := true, recurses := true, plainKeys := false, apart := false, narrowed := true }
def StreamBeginsUptoSaid : Prop := streamBeginsUptoRow.holds Try.pinned (OpenSpec.upto streamBeginsSpec)

end Rows
end Go.Proofs.Yteibfmaddnnkaaa
