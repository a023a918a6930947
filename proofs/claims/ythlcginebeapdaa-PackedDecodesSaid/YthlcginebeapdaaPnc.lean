/- The deferred closure of (*taker).machine: what it does where the function returns, and where it panics for want of bytes. -/
import Derived.Test.YthlcginebeapdaaBase
import Derived.Tactics
import Derived.Tactics2
import Derived.Defers
import Derived.Recover
import Derived.Laws.Pointers
namespace Go.Proofs.Ythlcginebeapdaa
open Go.RowKit
set_option linter.unusedSimpArgs false
set_option linter.unusedVariables false
set_option maxRecDepth 100000

/-- What is thrown where bytes end too early. -/
abbrev shortV : Value := .iface 110 (.agg #[])
abbrev shortC : List PanicEntry := [{ v := shortV, recovered := false }]
theorem catch_idle (p : Addr) (w : World) :
    CallsD Try.prog 64 #[.pointer (some p)] .returning w fun e u' w' => e = .returned (.tuple #[]) ∧ u' = .returning ∧ w' = w := by
  refine callsD_of_wpS Try.func64 rfl fun c₀ cs hu => ?_
  apply wpS_seq
  apply wpS_region
  simp [wpOpsS, go_sem, recoverD, hu, Try.ntmps64, Exit.thenS]
  apply wpS_seq
  apply wpS_region
  simp [wpOpsS, go_sem, Exit.thenS]
  refine wpS_cond (t := false) (by simp [Act.eval, Array.replicate]) ?_
  simp only [Bool.false_eq_true, if_false]
  refine wpS_of_wp (wp_skip ?_)
  cases c₀
  simp_all [bodyPostS, results, Try.results64]
set_option maxHeartbeats 2000000 in
theorem catch_short (p : Addr) (x : Value) (w : World) (hc : w.cell? p = some x) (hz : w.frozen? p = false) (hp : p.block < w.heap.size) :
    CallsD Try.prog 64 #[.pointer (some p)] (.panicking shortC) w fun e u' w' => e = .returned (.tuple #[]) ∧ u' = .panicking [{ v := shortV, recovered := true }] ∧ w' = (w.alloc (.cells #[] 110)).setCell p (.bool false) := by
  have hta : ∀ (u : TypeId) (w : World), (Instr.typeAssert shortV u 110 true).run Try.prog w = .ok (.tuple #[.agg #[], .bool true]) w := fun u w => by kernel_rfl
  refine callsD_of_wpS Try.func64 rfl fun c₀ cs hu => ?_
  apply wpS_seq
  apply wpS_region
  simp [wpOpsS, go_sem, recoverD, hu, Try.ntmps64, Exit.thenS]
  refine wpS_of_wp ?_
  have hB : Below w.heap.size w (w.alloc (.cells #[] 110)) := (Below.refl _ _).alloc (Nat.le_refl _) _
  have hc' : (w.alloc (.cells #[] 110)).cell? p = some x := (hB.cell hp).trans hc
  have hz' : (w.alloc (.cells #[] 110)).frozen? p = false := (hB.frozen hp).trans hz
  go_wp2
  refine ⟨rfl, _, rfl, _, ?_, rfl, rfl, rfl⟩
  simp [results, Try.results64]
end Go.Proofs.Ythlcginebeapdaa
