/-
  No cell of these rows narrows 'for every input' (looked for: loops, veiled, ifaces, maps, wideKeys, modest, calm, conditions, laid).
  DERIVED. THE GIVEN ROWS OF THIS SEAT. 12 by the template 'for every input the law returns true; each argument reads behind the call as it read before'; 0 by the template 'total and deterministic' (their statements: YtophgeegofaioaaTotals.lean).
  GIVEN WITH THE SEED: the statements are not yours to turn. If you find one false, say at which input.
  Laid BY PROGRAM, IN A SANDBOX (cutbox-rows.mjs): the forced cells as the released guide's own fill.sh prints them over the translation a4d891db1e8c7f6a… (all of the seat's roots in one cut). By AI agents, Wed Nov 11 2026. No macro, syntax, notation, axiom, sorry.
-/
import Derived.Test.YtophgeegofaioaaChecked
import GoSem.Claim
import GoSem.ClaimJoined
import GoSem.ClaimMapViews
import Derived.JoinedTies
import Derived.KernelRfl
namespace Go.Proofs.Ytophgeegofaioaa
/- THE CELL 'sum', in the pinned program and in every row, IS THE sha256 OF THE DUMP (.gsa) THAT YtophgeegofaioaaProg.lean LOADS. Nothing in Lean hashes anything: it is a label: what it is worth is what the hold of that sum in a sandbox is worth. -/
noncomputable def Try.pinned : Pinned := { name := "ytophgeegofaioaa", sum := "a4d891db1e8c7f6a2a6b0b21b88f1d33dc984af7aa04d7f4c37e1f7d41efa2c7", checked := Try.checked }
namespace Rows
def none {H : Type} : Left H := { results := [], args := [] }

/-- 'tropicalaw.Names': WHATEVER THE INPUT: true; the input reads as it did. -/
def namesSpec : ChangeSpec := { name := "names", fn := fun _ => fun
  | [] => { results := [.lit (.bool true)], args := [] }
  | _ => none }
def namesRow : OpenClaim := { program := "ytophgeegofaioaa", sum := "a4d891db1e8c7f6a2a6b0b21b88f1d33dc984af7aa04d7f4c37e1f7d41efa2c7", func := "tropica/tropicalaw.Names", spec := "names", apart := false }
def NamesSaid : Prop := namesRow.holds Try.pinned (OpenSpec.ofChange namesSpec)

/-- ITS FALSE NEIGHBOUR: 'it returns false'. Refute it at one input. -/
def namesWrong : ChangeSpec := { name := "names", fn := fun _ => fun
  | [] => { results := [.lit (.bool false)], args := [] }
  | _ => none }
def NamesWrongFalsely : Prop := namesRow.holds Try.pinned (OpenSpec.ofChange namesWrong)

/-- 'tropicalaw.TwinLesses': WHATEVER THE INPUT: true; the input reads as it did. -/
def twinLessesSpec : ChangeSpec := { name := "twinLesses", fn := fun _ => fun
  | [d1, d2] => { results := [.lit (.bool true)], args := [d1, d2] }
  | _ => none }
def twinLessesRow : OpenClaim := { program := "ytophgeegofaioaa", sum := "a4d891db1e8c7f6a2a6b0b21b88f1d33dc984af7aa04d7f4c37e1f7d41efa2c7", func := "tropica/tropicalaw.TwinLesses", spec := "twinLesses", apart := false }
def TwinLessesSaid : Prop := twinLessesRow.holds Try.pinned (OpenSpec.ofChange twinLessesSpec)

/-- ITS FALSE NEIGHBOUR: 'it returns false'. Refute it at one input. -/
def twinLessesWrong : ChangeSpec := { name := "twinLesses", fn := fun _ => fun
  | [d1, d2] => { results := [.lit (.bool false)], args := [d1, d2] }
  | _ => none }
def TwinLessesWrongFalsely : Prop := twinLessesRow.holds Try.pinned (OpenSpec.ofChange twinLessesWrong)

/-- 'tropicalaw.WeightTimes': WHATEVER THE INPUT: true; the input reads as it did. -/
def weightTimesSpec : ChangeSpec := { name := "weightTimes", fn := fun _ => fun
  | [d1, d2] => { results := [.lit (.bool true)], args := [d1, d2] }
  | _ => none }
def weightTimesRow : OpenClaim := { program := "ytophgeegofaioaa", sum := "a4d891db1e8c7f6a2a6b0b21b88f1d33dc984af7aa04d7f4c37e1f7d41efa2c7", func := "tropica/tropicalaw.WeightTimes", spec := "weightTimes", apart := false }
def WeightTimesSaid : Prop := weightTimesRow.holds Try.pinned (OpenSpec.ofChange weightTimesSpec)

/-- ITS FALSE NEIGHBOUR: 'it returns false'. Refute it at one input. -/
def weightTimesWrong : ChangeSpec := { name := "weightTimes", fn := fun _ => fun
  | [d1, d2] => { results := [.lit (.bool false)], args := [d1, d2] }
  | _ => none }
def WeightTimesWrongFalsely : Prop := weightTimesRow.holds Try.pinned (OpenSpec.ofChange weightTimesWrong)

/-- 'tropicalaw.WeightOvers': WHATEVER THE INPUT: true; the input reads as it did. -/
def weightOversSpec : ChangeSpec := { name := "weightOvers", fn := fun _ => fun
  | [d1, d2] => { results := [.lit (.bool true)], args := [d1, d2] }
  | _ => none }
def weightOversRow : OpenClaim := { program := "ytophgeegofaioaa", sum := "a4d891db1e8c7f6a2a6b0b21b88f1d33dc984af7aa04d7f4c37e1f7d41efa2c7", func := "tropica/tropicalaw.WeightOvers", spec := "weightOvers", apart := false }
def WeightOversSaid : Prop := weightOversRow.holds Try.pinned (OpenSpec.ofChange weightOversSpec)

/-- ITS FALSE NEIGHBOUR: 'it returns false'. Refute it at one input. -/
def weightOversWrong : ChangeSpec := { name := "weightOvers", fn := fun _ => fun
  | [d1, d2] => { results := [.lit (.bool false)], args := [d1, d2] }
  | _ => none }
def WeightOversWrongFalsely : Prop := weightOversRow.holds Try.pinned (OpenSpec.ofChange weightOversWrong)

/-- 'tropicalaw.WeightPluses': WHATEVER THE INPUT: true; the input reads as it did. -/
def weightPlusesSpec : ChangeSpec := { name := "weightPluses", fn := fun _ => fun
  | [d1, d2] => { results := [.lit (.bool true)], args := [d1, d2] }
  | _ => none }
def weightPlusesRow : OpenClaim := { program := "ytophgeegofaioaa", sum := "a4d891db1e8c7f6a2a6b0b21b88f1d33dc984af7aa04d7f4c37e1f7d41efa2c7", func := "tropica/tropicalaw.WeightPluses", spec := "weightPluses", apart := false }
def WeightPlusesSaid : Prop := weightPlusesRow.holds Try.pinned (OpenSpec.ofChange weightPlusesSpec)

/-- ITS FALSE NEIGHBOUR: 'it returns false'. Refute it at one input. -/
def weightPlusesWrong : ChangeSpec := { name := "weightPluses", fn := fun _ => fun
  | [d1, d2] => { results := [.lit (.bool false)], args := [d1, d2] }
  | _ => none }
def WeightPlusesWrongFalsely : Prop := weightPlusesRow.holds Try.pinned (OpenSpec.ofChange weightPlusesWrong)

/-- 'tropicalaw.TwinPluses': WHATEVER THE INPUT: true; the input reads as it did. -/
def twinPlusesSpec : ChangeSpec := { name := "twinPluses", fn := fun _ => fun
  | [d1, d2] => { results := [.lit (.bool true)], args := [d1, d2] }
  | _ => none }
def twinPlusesRow : OpenClaim := { program := "ytophgeegofaioaa", sum := "a4d891db1e8c7f6a2a6b0b21b88f1d33dc984af7aa04d7f4c37e1f7d41efa2c7", func := "tropica/tropicalaw.TwinPluses", spec := "twinPluses", apart := false }
def TwinPlusesSaid : Prop := twinPlusesRow.holds Try.pinned (OpenSpec.ofChange twinPlusesSpec)

/-- ITS FALSE NEIGHBOUR: 'it returns false'. Refute it at one input. -/
def twinPlusesWrong : ChangeSpec := { name := "twinPluses", fn := fun _ => fun
  | [d1, d2] => { results := [.lit (.bool false)], args := [d1, d2] }
  | _ => none }
def TwinPlusesWrongFalsely : Prop := twinPlusesRow.holds Try.pinned (OpenSpec.ofChange twinPlusesWrong)

/-- 'tropicalaw.WeightSums': WHATEVER THE INPUT: true; the input reads as it did. -/
def weightSumsSpec : ChangeSpec := { name := "weightSums", fn := fun _ => fun
  | [d] => { results := [.lit (.bool true)], args := [d] }
  | _ => none }
def weightSumsRow : OpenClaim := { program := "ytophgeegofaioaa", sum := "a4d891db1e8c7f6a2a6b0b21b88f1d33dc984af7aa04d7f4c37e1f7d41efa2c7", func := "tropica/tropicalaw.WeightSums", spec := "weightSums", apart := false }
def WeightSumsSaid : Prop := weightSumsRow.holds Try.pinned (OpenSpec.ofChange weightSumsSpec)

/-- ITS FALSE NEIGHBOUR: 'it returns false'. Refute it at one input. -/
def weightSumsWrong : ChangeSpec := { name := "weightSums", fn := fun _ => fun
  | [d] => { results := [.lit (.bool false)], args := [d] }
  | _ => none }
def WeightSumsWrongFalsely : Prop := weightSumsRow.holds Try.pinned (OpenSpec.ofChange weightSumsWrong)

/-- 'tropicalaw.TwinTimes': WHATEVER THE INPUT: true; the input reads as it did. -/
def twinTimesSpec : ChangeSpec := { name := "twinTimes", fn := fun _ => fun
  | [d1, d2] => { results := [.lit (.bool true)], args := [d1, d2] }
  | _ => none }
def twinTimesRow : OpenClaim := { program := "ytophgeegofaioaa", sum := "a4d891db1e8c7f6a2a6b0b21b88f1d33dc984af7aa04d7f4c37e1f7d41efa2c7", func := "tropica/tropicalaw.TwinTimes", spec := "twinTimes", apart := false }
def TwinTimesSaid : Prop := twinTimesRow.holds Try.pinned (OpenSpec.ofChange twinTimesSpec)

/-- ITS FALSE NEIGHBOUR: 'it returns false'. Refute it at one input. -/
def twinTimesWrong : ChangeSpec := { name := "twinTimes", fn := fun _ => fun
  | [d1, d2] => { results := [.lit (.bool false)], args := [d1, d2] }
  | _ => none }
def TwinTimesWrongFalsely : Prop := twinTimesRow.holds Try.pinned (OpenSpec.ofChange twinTimesWrong)

/-- 'tropicalaw.WeighCrosses': WHATEVER THE INPUT: true; the input reads as it did. -/
def weighCrossesSpec : ChangeSpec := { name := "weighCrosses", fn := fun _ => fun
  | [d1, d2] => { results := [.lit (.bool true)], args := [d1, d2] }
  | _ => none }
def weighCrossesRow : OpenClaim := { program := "ytophgeegofaioaa", sum := "a4d891db1e8c7f6a2a6b0b21b88f1d33dc984af7aa04d7f4c37e1f7d41efa2c7", func := "tropica/tropicalaw.WeighCrosses", spec := "weighCrosses", apart := false }
def WeighCrossesSaid : Prop := weighCrossesRow.holds Try.pinned (OpenSpec.ofChange weighCrossesSpec)

/-- ITS FALSE NEIGHBOUR: 'it returns false'. Refute it at one input. -/
def weighCrossesWrong : ChangeSpec := { name := "weighCrosses", fn := fun _ => fun
  | [d1, d2] => { results := [.lit (.bool false)], args := [d1, d2] }
  | _ => none }
def WeighCrossesWrongFalsely : Prop := weighCrossesRow.holds Try.pinned (OpenSpec.ofChange weighCrossesWrong)

/-- 'tropicalaw.WeighLines': WHATEVER THE INPUT: true; the input reads as it did. -/
def weighLinesSpec : ChangeSpec := { name := "weighLines", fn := fun _ => fun
  | [d] => { results := [.lit (.bool true)], args := [d] }
  | _ => none }
def weighLinesRow : OpenClaim := { program := "ytophgeegofaioaa", sum := "a4d891db1e8c7f6a2a6b0b21b88f1d33dc984af7aa04d7f4c37e1f7d41efa2c7", func := "tropica/tropicalaw.WeighLines", spec := "weighLines", apart := false }
def WeighLinesSaid : Prop := weighLinesRow.holds Try.pinned (OpenSpec.ofChange weighLinesSpec)

/-- ITS FALSE NEIGHBOUR: 'it returns false'. Refute it at one input. -/
def weighLinesWrong : ChangeSpec := { name := "weighLines", fn := fun _ => fun
  | [d] => { results := [.lit (.bool false)], args := [d] }
  | _ => none }
def WeighLinesWrongFalsely : Prop := weighLinesRow.holds Try.pinned (OpenSpec.ofChange weighLinesWrong)

/-- 'tropicalaw.CoreChecks': WHATEVER THE INPUT: true; the input reads as it did. -/
def coreChecksSpec : ChangeSpec := { name := "coreChecks", fn := fun _ => fun
  | [d] => { results := [.lit (.bool true)], args := [d] }
  | _ => none }
def coreChecksRow : OpenClaim := { program := "ytophgeegofaioaa", sum := "a4d891db1e8c7f6a2a6b0b21b88f1d33dc984af7aa04d7f4c37e1f7d41efa2c7", func := "tropica/tropicalaw.CoreChecks", spec := "coreChecks", unfollowed := true, recurses := true, apart := false }
def CoreChecksSaid : Prop := coreChecksRow.holds Try.pinned (OpenSpec.ofChange coreChecksSpec)

/-- ITS FALSE NEIGHBOUR: 'it returns false'. Refute it at one input. -/
def coreChecksWrong : ChangeSpec := { name := "coreChecks", fn := fun _ => fun
  | [d] => { results := [.lit (.bool false)], args := [d] }
  | _ => none }
def CoreChecksWrongFalsely : Prop := coreChecksRow.holds Try.pinned (OpenSpec.ofChange coreChecksWrong)

/-- 'tropicalaw.TwinPowers': WHATEVER THE INPUT: true; the input reads as it did. -/
def twinPowersSpec : ChangeSpec := { name := "twinPowers", fn := fun _ => fun
  | [d1, d2] => { results := [.lit (.bool true)], args := [d1, d2] }
  | _ => none }
def twinPowersRow : OpenClaim := { program := "ytophgeegofaioaa", sum := "a4d891db1e8c7f6a2a6b0b21b88f1d33dc984af7aa04d7f4c37e1f7d41efa2c7", func := "tropica/tropicalaw.TwinPowers", spec := "twinPowers", unfollowed := true, recurses := true, apart := false }
def TwinPowersSaid : Prop := twinPowersRow.holds Try.pinned (OpenSpec.ofChange twinPowersSpec)

/-- ITS FALSE NEIGHBOUR: 'it returns false'. Refute it at one input. -/
def twinPowersWrong : ChangeSpec := { name := "twinPowers", fn := fun _ => fun
  | [d1, d2] => { results := [.lit (.bool false)], args := [d1, d2] }
  | _ => none }
def TwinPowersWrongFalsely : Prop := twinPowersRow.holds Try.pinned (OpenSpec.ofChange twinPowersWrong)

/- THE SECOND FORM. 'bulk': how many values and letters a reading holds, each counted each time it is reached (what is shared counts as often as it is met; a slice's spare places count too). A statement '..UptoSaid' is the law's where the arguments, and the package variables that the reading takes, are together of bulk at most 1048576: NARROWER than '..Said'. Prove '..Said' where nothing that the law and all that it calls make is longer than what came in: it says more and counts as full. Else prove '..UptoSaid'. A law counts once. -/
mutual
def uptoBulk {H : Type} : DataW H → Nat
  | .lit (.string bytes) => bytes.length + 1
  | .lit _ => 1
  | .nil => 1
  | .ptr d => uptoBulk d + 1
  | .slice elems spare => uptoBulkAll elems + uptoBulkAll spare + 1
  | .agg parts => uptoBulkAll parts + 1
  | .iface _ d => uptoBulk d + 1
  | .map entries => uptoBulkEntries entries + 1
  | .held _ => 1
def uptoBulkAll {H : Type} : List (DataW H) → Nat
  | [] => 0
  | d :: r => uptoBulk d + uptoBulkAll r
def uptoBulkEntries {H : Type} : List (Lit × DataW H) → Nat
  | [] => 0
  | x :: r => uptoBulkEntry x + uptoBulkEntries r
def uptoBulkEntry {H : Type} : Lit × DataW H → Nat
  | (.string bytes, d) => bytes.length + uptoBulk d + 1
  | (_, d) => uptoBulk d + 1
 end
def uptoSmall : (H : Type) → List (DataW H) → Bool := fun _ ds => decide (uptoBulkAll ds ≤ 1048576)
def OpenSpec.upto (s : _root_.Go.ChangeSpec) : _root_.Go.OpenSpec := { _root_.Go.OpenSpec.ofChange s with cond := some uptoSmall }

/-- 'tropicalaw.Names', WHERE WHAT IT READS IS OF BULK AT MOST 1048576: true; the input reads as it did. -/
def namesUptoRow : OpenClaim := { program := "ytophgeegofaioaa", sum := "a4d891db1e8c7f6a2a6b0b21b88f1d33dc984af7aa04d7f4c37e1f7d41efa2c7", func := "tropica/tropicalaw.Names", spec := "names", apart := false, narrowed := true }
def NamesUptoSaid : Prop := namesUptoRow.holds Try.pinned (OpenSpec.upto namesSpec)

/-- 'tropicalaw.TwinLesses', WHERE WHAT IT READS IS OF BULK AT MOST 1048576: true; the input reads as it did. -/
def twinLessesUptoRow : OpenClaim := { program := "ytophgeegofaioaa", sum := "a4d891db1e8c7f6a2a6b0b21b88f1d33dc984af7aa04d7f4c37e1f7d41efa2c7", func := "tropica/tropicalaw.TwinLesses", spec := "twinLesses", apart := false, narrowed := true }
def TwinLessesUptoSaid : Prop := twinLessesUptoRow.holds Try.pinned (OpenSpec.upto twinLessesSpec)

/-- 'tropicalaw.WeightTimes', WHERE WHAT IT READS IS OF BULK AT MOST 1048576: true; the input reads as it did. -/
def weightTimesUptoRow : OpenClaim := { program := "ytophgeegofaioaa", sum := "a4d891db1e8c7f6a2a6b0b21b88f1d33dc984af7aa04d7f4c37e1f7d41efa2c7", func := "tropica/tropicalaw.WeightTimes", spec := "weightTimes", apart := false, narrowed := true }
def WeightTimesUptoSaid : Prop := weightTimesUptoRow.holds Try.pinned (OpenSpec.upto weightTimesSpec)

/-- 'tropicalaw.WeightOvers', WHERE WHAT IT READS IS OF BULK AT MOST 1048576: true; the input reads as it did. -/
def weightOversUptoRow : OpenClaim := { program := "ytophgeegofaioaa", sum := "a4d891db1e8c7f6a2a6b0b21b88f1d33dc984af7aa04d7f4c37e1f7d41efa2c7", func := "tropica/tropicalaw.WeightOvers", spec := "weightOvers", apart := false, narrowed := true }
def WeightOversUptoSaid : Prop := weightOversUptoRow.holds Try.pinned (OpenSpec.upto weightOversSpec)

/-- 'tropicalaw.WeightPluses', WHERE WHAT IT READS IS OF BULK AT MOST 1048576: true; the input reads as it did. -/
def weightPlusesUptoRow : OpenClaim := { program := "ytophgeegofaioaa", sum := "a4d891db1e8c7f6a2a6b0b21b88f1d33dc984af7aa04d7f4c37e1f7d41efa2c7", func := "tropica/tropicalaw.WeightPluses", spec := "weightPluses", apart := false, narrowed := true }
def WeightPlusesUptoSaid : Prop := weightPlusesUptoRow.holds Try.pinned (OpenSpec.upto weightPlusesSpec)

/-- 'tropicalaw.TwinPluses', WHERE WHAT IT READS IS OF BULK AT MOST 1048576: true; the input reads as it did. -/
def twinPlusesUptoRow : OpenClaim := { program := "ytophgeegofaioaa", sum := "a4d891db1e8c7f6a2a6b0b21b88f1d33dc984af7aa04d7f4c37e1f7d41efa2c7", func := "tropica/tropicalaw.TwinPluses", spec := "twinPluses", apart := false, narrowed := true }
def TwinPlusesUptoSaid : Prop := twinPlusesUptoRow.holds Try.pinned (OpenSpec.upto twinPlusesSpec)

/-- 'tropicalaw.WeightSums', WHERE WHAT IT READS IS OF BULK AT MOST 1048576: true; the input reads as it did. -/
def weightSumsUptoRow : OpenClaim := { program := "ytophgeegofaioaa", sum := "a4d891db1e8c7f6a2a6b0b21b88f1d33dc984af7aa04d7f4c37e1f7d41efa2c7", func := "tropica/tropicalaw.WeightSums", spec := "weightSums", apart := false, narrowed := true }
def WeightSumsUptoSaid : Prop := weightSumsUptoRow.holds Try.pinned (OpenSpec.upto weightSumsSpec)

/-- 'tropicalaw.TwinTimes', WHERE WHAT IT READS IS OF BULK AT MOST 1048576: true; the input reads as it did. -/
def twinTimesUptoRow : OpenClaim := { program := "ytophgeegofaioaa", sum := "a4d891db1e8c7f6a2a6b0b21b88f1d33dc984af7aa04d7f4c37e1f7d41efa2c7", func := "tropica/tropicalaw.TwinTimes", spec := "twinTimes", apart := false, narrowed := true }
def TwinTimesUptoSaid : Prop := twinTimesUptoRow.holds Try.pinned (OpenSpec.upto twinTimesSpec)

/-- 'tropicalaw.WeighCrosses', WHERE WHAT IT READS IS OF BULK AT MOST 1048576: true; the input reads as it did. -/
def weighCrossesUptoRow : OpenClaim := { program := "ytophgeegofaioaa", sum := "a4d891db1e8c7f6a2a6b0b21b88f1d33dc984af7aa04d7f4c37e1f7d41efa2c7", func := "tropica/tropicalaw.WeighCrosses", spec := "weighCrosses", apart := false, narrowed := true }
def WeighCrossesUptoSaid : Prop := weighCrossesUptoRow.holds Try.pinned (OpenSpec.upto weighCrossesSpec)

/-- 'tropicalaw.WeighLines', WHERE WHAT IT READS IS OF BULK AT MOST 1048576: true; the input reads as it did. -/
def weighLinesUptoRow : OpenClaim := { program := "ytophgeegofaioaa", sum := "a4d891db1e8c7f6a2a6b0b21b88f1d33dc984af7aa04d7f4c37e1f7d41efa2c7", func := "tropica/tropicalaw.WeighLines", spec := "weighLines", apart := false, narrowed := true }
def WeighLinesUptoSaid : Prop := weighLinesUptoRow.holds Try.pinned (OpenSpec.upto weighLinesSpec)

/-- 'tropicalaw.CoreChecks', WHERE WHAT IT READS IS OF BULK AT MOST 1048576: true; the input reads as it did. -/
def coreChecksUptoRow : OpenClaim := { program := "ytophgeegofaioaa", sum := "a4d891db1e8c7f6a2a6b0b21b88f1d33dc984af7aa04d7f4c37e1f7d41efa2c7", func := "tropica/tropicalaw.CoreChecks", spec := "coreChecks", unfollowed := true, recurses := true, apart := false, narrowed := true }
def CoreChecksUptoSaid : Prop := coreChecksUptoRow.holds Try.pinned (OpenSpec.upto coreChecksSpec)

/-- 'tropicalaw.TwinPowers', WHERE WHAT IT READS IS OF BULK AT MOST 1048576: true; the input reads as it did. -/
def twinPowersUptoRow : OpenClaim := { program := "ytophgeegofaioaa", sum := "a4d891db1e8c7f6a2a6b0b21b88f1d33dc984af7aa04d7f4c37e1f7d41efa2c7", func := "tropica/tropicalaw.TwinPowers", spec := "twinPowers", unfollowed := true, recurses := true, apart := false, narrowed := true }
def TwinPowersUptoSaid : Prop := twinPowersUptoRow.holds Try.pinned (OpenSpec.upto twinPowersSpec)

end Rows
end Go.Proofs.Ytophgeegofaioaa
