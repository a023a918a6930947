/-
  No cell of these rows narrows 'for every input' (looked for: loops, veiled, ifaces, maps, wideKeys, modest, calm, conditions, laid).
  DERIVED. THE GIVEN ROWS OF THIS SEAT. 6 by the template 'for every input the law returns true; each argument reads behind the call as it read before'; 0 by the template 'total and deterministic' (their statements: YthlcginebeapdaaTotals.lean).
  GIVEN WITH THE SEED: the statements are not yours to turn. If you find one false, say at which input.
  Laid BY PROGRAM, IN A SANDBOX (cutbox-rows.mjs): the forced cells as the released guide's own fill.sh prints them over the translation 75dac0dea120397d… (all of the seat's roots in one cut). By AI agents, Wed Nov 11 2026. No macro, syntax, notation, axiom, sorry.
-/
import Derived.Test.YthlcginebeapdaaChecked
import GoSem.Claim
import GoSem.ClaimJoined
import GoSem.ClaimMapViews
import Derived.JoinedTies
import Derived.KernelRfl
namespace Go.Proofs.Ythlcginebeapdaa
/- THE CELL 'sum', in the pinned program and in every row, IS THE sha256 OF THE DUMP (.gsa) THAT YthlcginebeapdaaProg.lean LOADS. Nothing in Lean hashes anything: it is a label: what it is worth is what the hold of that sum in a sandbox is worth. -/
noncomputable def Try.pinned : Pinned := { name := "ythlcginebeapdaa", sum := "75dac0dea120397ddec9fac7419746d53f57376367317188c13fdecc68d159fa", checked := Try.checked }
namespace Rows
def none {H : Type} : Left H := { results := [], args := [] }

/-- 'tropicalaw.CoreChecks': WHATEVER THE INPUT: true; the input reads as it did. -/
def coreChecksSpec : ChangeSpec := { name := "coreChecks", fn := fun _ => fun
  | [d] => { results := [.lit (.bool true)], args := [d] }
  | _ => none }
def coreChecksRow : OpenClaim := { program := "ythlcginebeapdaa", sum := "75dac0dea120397ddec9fac7419746d53f57376367317188c13fdecc68d159fa", func := "tropica/tropicalaw.CoreChecks", spec := "coreChecks", unfollowed := true, recurses := true, plainKeys := false, apart := false }
def CoreChecksSaid : Prop := coreChecksRow.holds Try.pinned (OpenSpec.ofChange coreChecksSpec)

/-- ITS FALSE NEIGHBOUR: 'it returns false'. Refute it at one input. -/
def coreChecksWrong : ChangeSpec := { name := "coreChecks", fn := fun _ => fun
  | [d] => { results := [.lit (.bool false)], args := [d] }
  | _ => none }
def CoreChecksWrongFalsely : Prop := coreChecksRow.holds Try.pinned (OpenSpec.ofChange coreChecksWrong)

/-- 'tropicalaw.NamesChecks': WHATEVER THE INPUT: true; the input reads as it did. -/
def namesChecksSpec : ChangeSpec := { name := "namesChecks", fn := fun _ => fun
  | [d] => { results := [.lit (.bool true)], args := [d] }
  | _ => none }
def namesChecksRow : OpenClaim := { program := "ythlcginebeapdaa", sum := "75dac0dea120397ddec9fac7419746d53f57376367317188c13fdecc68d159fa", func := "tropica/tropicalaw.NamesChecks", spec := "namesChecks", inPlace := ["sync/atomic.LoadUint32", "(*internal/sync.Mutex).Lock", "internal/race.Disable", "sync/atomic.CompareAndSwapInt32", "internal/race.Enable", "internal/race.Acquire", "(*internal/sync.Mutex).lockSlow", "internal/sync.runtime_canSpin", "internal/sync.runtime_doSpin", "internal/sync.throw", "internal/sync.runtime_nanotime", "internal/sync.runtime_SemacquireMutex", "sync/atomic.AddInt32", "(*internal/sync.Mutex).Unlock", "internal/race.ReleaseMerge", "(*internal/sync.Mutex).unlockSlow", "internal/sync.fatal", "internal/sync.runtime_Semrelease", "sync/atomic.StoreUint32"], unfollowed := true, recurses := true, plainKeys := false, apart := false }
def NamesChecksSaid : Prop := namesChecksRow.holds Try.pinned (OpenSpec.ofChange namesChecksSpec)

/-- ITS FALSE NEIGHBOUR: 'it returns false'. Refute it at one input. -/
def namesChecksWrong : ChangeSpec := { name := "namesChecks", fn := fun _ => fun
  | [d] => { results := [.lit (.bool false)], args := [d] }
  | _ => none }
def NamesChecksWrongFalsely : Prop := namesChecksRow.holds Try.pinned (OpenSpec.ofChange namesChecksWrong)

/-- 'tropicalaw.NamesFinds': WHATEVER THE INPUT: true; the input reads as it did. -/
def namesFindsSpec : ChangeSpec := { name := "namesFinds", fn := fun _ => fun
  | [d1, d2] => { results := [.lit (.bool true)], args := [d1, d2] }
  | _ => none }
def namesFindsRow : OpenClaim := { program := "ythlcginebeapdaa", sum := "75dac0dea120397ddec9fac7419746d53f57376367317188c13fdecc68d159fa", func := "tropica/tropicalaw.NamesFinds", spec := "namesFinds", inPlace := ["sync/atomic.LoadUint32", "(*internal/sync.Mutex).Lock", "internal/race.Disable", "sync/atomic.CompareAndSwapInt32", "internal/race.Enable", "internal/race.Acquire", "(*internal/sync.Mutex).lockSlow", "internal/sync.runtime_canSpin", "internal/sync.runtime_doSpin", "internal/sync.throw", "internal/sync.runtime_nanotime", "internal/sync.runtime_SemacquireMutex", "sync/atomic.AddInt32", "(*internal/sync.Mutex).Unlock", "internal/race.ReleaseMerge", "(*internal/sync.Mutex).unlockSlow", "internal/sync.fatal", "internal/sync.runtime_Semrelease", "sync/atomic.StoreUint32"], unfollowed := true, recurses := true, plainKeys := false, apart := false }
def NamesFindsSaid : Prop := namesFindsRow.holds Try.pinned (OpenSpec.ofChange namesFindsSpec)

/-- ITS FALSE NEIGHBOUR: 'it returns false'. Refute it at one input. -/
def namesFindsWrong : ChangeSpec := { name := "namesFinds", fn := fun _ => fun
  | [d1, d2] => { results := [.lit (.bool false)], args := [d1, d2] }
  | _ => none }
def NamesFindsWrongFalsely : Prop := namesFindsRow.holds Try.pinned (OpenSpec.ofChange namesFindsWrong)

/-- 'tropicalaw.NamesOfs': WHATEVER THE INPUT: true; the input reads as it did. -/
def namesOfsSpec : ChangeSpec := { name := "namesOfs", fn := fun _ => fun
  | [d1, d2] => { results := [.lit (.bool true)], args := [d1, d2] }
  | _ => none }
def namesOfsRow : OpenClaim := { program := "ythlcginebeapdaa", sum := "75dac0dea120397ddec9fac7419746d53f57376367317188c13fdecc68d159fa", func := "tropica/tropicalaw.NamesOfs", spec := "namesOfs", inPlace := ["sync/atomic.LoadUint32", "(*internal/sync.Mutex).Lock", "internal/race.Disable", "sync/atomic.CompareAndSwapInt32", "internal/race.Enable", "internal/race.Acquire", "(*internal/sync.Mutex).lockSlow", "internal/sync.runtime_canSpin", "internal/sync.runtime_doSpin", "internal/sync.throw", "internal/sync.runtime_nanotime", "internal/sync.runtime_SemacquireMutex", "sync/atomic.AddInt32", "(*internal/sync.Mutex).Unlock", "internal/race.ReleaseMerge", "(*internal/sync.Mutex).unlockSlow", "internal/sync.fatal", "internal/sync.runtime_Semrelease", "sync/atomic.StoreUint32"], unfollowed := true, recurses := true, plainKeys := false, apart := false }
def NamesOfsSaid : Prop := namesOfsRow.holds Try.pinned (OpenSpec.ofChange namesOfsSpec)

/-- ITS FALSE NEIGHBOUR: 'it returns false'. Refute it at one input. -/
def namesOfsWrong : ChangeSpec := { name := "namesOfs", fn := fun _ => fun
  | [d1, d2] => { results := [.lit (.bool false)], args := [d1, d2] }
  | _ => none }
def NamesOfsWrongFalsely : Prop := namesOfsRow.holds Try.pinned (OpenSpec.ofChange namesOfsWrong)

/-- 'tropicalaw.EmptiesRemoves': WHATEVER THE INPUT: true; the input reads as it did. -/
def emptiesRemovesSpec : ChangeSpec := { name := "emptiesRemoves", fn := fun _ => fun
  | [d] => { results := [.lit (.bool true)], args := [d] }
  | _ => none }
def emptiesRemovesRow : OpenClaim := { program := "ythlcginebeapdaa", sum := "75dac0dea120397ddec9fac7419746d53f57376367317188c13fdecc68d159fa", func := "tropica/tropicalaw.EmptiesRemoves", spec := "emptiesRemoves", unfollowed := true, recurses := true, plainKeys := false, apart := false }
def EmptiesRemovesSaid : Prop := emptiesRemovesRow.holds Try.pinned (OpenSpec.ofChange emptiesRemovesSpec)

/-- ITS FALSE NEIGHBOUR: 'it returns false'. Refute it at one input. -/
def emptiesRemovesWrong : ChangeSpec := { name := "emptiesRemoves", fn := fun _ => fun
  | [d] => { results := [.lit (.bool false)], args := [d] }
  | _ => none }
def EmptiesRemovesWrongFalsely : Prop := emptiesRemovesRow.holds Try.pinned (OpenSpec.ofChange emptiesRemovesWrong)

/-- 'tropicalaw.PackedDecodes': WHATEVER THE INPUT: true; the input reads as it did. -/
def packedDecodesSpec : ChangeSpec := { name := "packedDecodes", fn := fun _ => fun
  | [d] => { results := [.lit (.bool true)], args := [d] }
  | _ => none }
def packedDecodesRow : OpenClaim := { program := "ythlcginebeapdaa", sum := "75dac0dea120397ddec9fac7419746d53f57376367317188c13fdecc68d159fa", func := "tropica/tropicalaw.PackedDecodes", spec := "packedDecodes", unfollowed := true, recurses := true, plainKeys := false, apart := false }
def PackedDecodesSaid : Prop := packedDecodesRow.holds Try.pinned (OpenSpec.ofChange packedDecodesSpec)

/-- ITS FALSE NEIGHBOUR: 'it returns false'. Refute it at one input. -/
def packedDecodesWrong : ChangeSpec := { name := "packedDecodes", fn := fun _ => fun
  | [d] => { results := [.lit (.bool false)], args := [d] }
  | _ => none }
def PackedDecodesWrongFalsely : Prop := packedDecodesRow.holds Try.pinned (OpenSpec.ofChange packedDecodesWrong)

/- THE SECOND FORM. 'bulk': how many values and letters a reading holds, each counted each time it is reached (what is shared counts as often as it is met; a slice's spare places count too). A statement '..UptoSaid' is the law's where the arguments, and the package variables that the reading takes, are together of bulk at most 1048576: NARROWER than '..Said'. Prove '..Said' where nothing that the law and all that it calls make is longer than what came in: it says more and counts as full. Else prove '..UptoSaid'. A law counts once. -/
mutual
def uptoBulk {H : Type} : DataW H → Nat
  | .lit (.string bytes) => bytes.length + 1
  | .lit _ => 1
  | .nil => 1
  | .ptr d => uptoBulk d + 1
  | .slice elems spare => uptoBulkAll elems + uptoBulkAll spare + 1
  | .agg parts => uptoBulkAll parts + 1
  | .iface _ d => uptoBulk d + 1
  | .map entries => uptoBulkEntries entries + 1
  | .held _ => 1
def uptoBulkAll {H : Type} : List (DataW H) → Nat
  | [] => 0
  | d :: r => uptoBulk d + uptoBulkAll r
def uptoBulkEntries {H : Type} : List (Lit × DataW H) → Nat
  | [] => 0
  | x :: r => uptoBulkEntry x + uptoBulkEntries r
def uptoBulkEntry {H : Type} : Lit × DataW H → Nat
  | (.string bytes, d) => bytes.length + uptoBulk d + 1
  | (_, d) => uptoBulk d + 1
 end
def uptoSmall : (H : Type) → List (DataW H) → Bool := fun _ ds => decide (uptoBulkAll ds ≤ 1048576)
def OpenSpec.upto (s : _root_.Go.ChangeSpec) : _root_.Go.OpenSpec := { _root_.Go.OpenSpec.ofChange s with cond := some uptoSmall }

/-- 'tropicalaw.CoreChecks', WHERE WHAT IT READS IS OF BULK AT MOST 1048576: true; the input reads as it did. -/
def coreChecksUptoRow : OpenClaim := { program := "ythlcginebeapdaa", sum := "75dac0dea120397ddec9fac7419746d53f57376367317188c13fdecc68d159fa", func := "tropica/tropicalaw.CoreChecks", spec := "coreChecks", unfollowed := true, recurses := true, plainKeys := false, apart := false, narrowed := true }
def CoreChecksUptoSaid : Prop := coreChecksUptoRow.holds Try.pinned (OpenSpec.upto coreChecksSpec)

/-- 'tropicalaw.NamesChecks', WHERE WHAT IT READS IS OF BULK AT MOST 1048576: true; the input reads as it did. -/
def namesChecksUptoRow : OpenClaim := { program := "ythlcginebeapdaa", sum := "75dac0dea120397ddec9fac7419746d53f57376367317188c13fdecc68d159fa", func := "tropica/tropicalaw.NamesChecks", spec := "namesChecks", inPlace := ["sync/atomic.LoadUint32", "(*internal/sync.Mutex).Lock", "internal/race.Disable", "sync/atomic.CompareAndSwapInt32", "internal/race.Enable", "internal/race.Acquire", "(*internal/sync.Mutex).lockSlow", "internal/sync.runtime_canSpin", "internal/sync.runtime_doSpin", "internal/sync.throw", "internal/sync.runtime_nanotime", "internal/sync.runtime_SemacquireMutex", "sync/atomic.AddInt32", "(*internal/sync.Mutex).Unlock", "internal/race.ReleaseMerge", "(*internal/sync.Mutex).unlockSlow", "internal/sync.fatal", "internal/sync.runtime_Semrelease", "sync/atomic.StoreUint32"], unfollowed := true, recurses := true, plainKeys := false, apart := false, narrowed := true }
def NamesChecksUptoSaid : Prop := namesChecksUptoRow.holds Try.pinned (OpenSpec.upto namesChecksSpec)

/-- 'tropicalaw.NamesFinds', WHERE WHAT IT READS IS OF BULK AT MOST 1048576: true; the input reads as it did. -/
def namesFindsUptoRow : OpenClaim := { program := "ythlcginebeapdaa", sum := "75dac0dea120397ddec9fac7419746d53f57376367317188c13fdecc68d159fa", func := "tropica/tropicalaw.NamesFinds", spec := "namesFinds", inPlace := ["sync/atomic.LoadUint32", "(*internal/sync.Mutex).Lock", "internal/race.Disable", "sync/atomic.CompareAndSwapInt32", "internal/race.Enable", "internal/race.Acquire", "(*internal/sync.Mutex).lockSlow", "internal/sync.runtime_canSpin", "internal/sync.runtime_doSpin", "internal/sync.throw", "internal/sync.runtime_nanotime", "internal/sync.runtime_SemacquireMutex", "sync/atomic.AddInt32", "(*internal/sync.Mutex).Unlock", "internal/race.ReleaseMerge", "(*internal/sync.Mutex).unlockSlow", "internal/sync.fatal", "internal/sync.runtime_Semrelease", "sync/atomic.StoreUint32"], unfollowed := true, recurses := true, plainKeys := false, apart := false, narrowed := true }
def NamesFindsUptoSaid : Prop := namesFindsUptoRow.holds Try.pinned (OpenSpec.upto namesFindsSpec)

/-- 'tropicalaw.NamesOfs', WHERE WHAT IT READS IS OF BULK AT MOST 1048576: true; the input reads as it did. -/
def namesOfsUptoRow : OpenClaim := { program := "ythlcginebeapdaa", sum := "75dac0dea120397ddec9fac7419746d53f57376367317188c13fdecc68d159fa", func := "tropica/tropicalaw.NamesOfs", spec := "namesOfs", inPlace := ["sync/atomic.LoadUint32", "(*internal/sync.Mutex).Lock", "internal/race.Disable", "sync/atomic.CompareAndSwapInt32", "internal/race.Enable", "internal/race.Acquire", "(*internal/sync.Mutex).lockSlow", "internal/sync.runtime_canSpin", "internal/sync.runtime_doSpin", "internal/sync.throw", "internal/sync.runtime_nanotime", "internal/sync.runtime_SemacquireMutex", "sync/atomic.AddInt32", "(*internal/sync.Mutex).Unlock", "internal/race.ReleaseMerge", "(*internal/sync.Mutex).unlockSlow", "internal/sync.fatal", "internal/sync.runtime_Semrelease", "sync/atomic.StoreUint32"], unfollowed := true, recurses := true, plainKeys := false, apart := false, narrowed := true }
def NamesOfsUptoSaid : Prop := namesOfsUptoRow.holds Try.pinned (OpenSpec.upto namesOfsSpec)

/-- 'tropicalaw.EmptiesRemoves', WHERE WHAT IT READS IS OF BULK AT MOST 1048576: true; the input reads as it did. -/
def emptiesRemovesUptoRow : OpenClaim := { program := "ythlcginebeapdaa", sum := "75dac0dea120397ddec9fac7419746d53f57376367317188c13fdecc68d159fa", func := "tropica/tropicalaw.EmptiesRemoves", spec := "emptiesRemoves", unfollowed := true, recurses := true, plainKeys := false, apart := false, narrowed := true }
def EmptiesRemovesUptoSaid : Prop := emptiesRemovesUptoRow.holds Try.pinned (OpenSpec.upto emptiesRemovesSpec)

/-- 'tropicalaw.PackedDecodes', WHERE WHAT IT READS IS OF BULK AT MOST 1048576: true; the input reads as it did. -/
def packedDecodesUptoRow : OpenClaim := { program := "ythlcginebeapdaa", sum := "75dac0dea120397ddec9fac7419746d53f57376367317188c13fdecc68d159fa", func := "tropica/tropicalaw.PackedDecodes", spec := "packedDecodes", unfollowed := true, recurses := true, plainKeys := false, apart := false, narrowed := true }
def PackedDecodesUptoSaid : Prop := packedDecodesUptoRow.holds Try.pinned (OpenSpec.upto packedDecodesSpec)

end Rows
end Go.Proofs.Ythlcginebeapdaa
