/- What the reference's smallest questions on numbers answer. -/
import Derived.Test.YtnnmdcagbcdfpaaBase
namespace Go.Proofs.Ytnnmdcagbcdfpaa
open Go.RowKit
set_option linter.unusedSimpArgs false
set_option linter.unusedVariables false

theorem ref_IsWeight (x : Int) (w : World) : Calls Try.prog 74 #[.int .i64 x] w fun e w' => e = .returned (.bool (decide (0 ≤ x ∧ x ≤ 1000000001))) ∧ w = w' := by
  go_enter Try.func74, Try.ntmps74
  go_wp2
  all_goals
    go_ret
    refine ⟨ret1b ?_, rfl⟩
    rw [Bool.eq_iff_iff]
    simp
    omega
theorem ref_In (n lo hi : Int) (w : World) : Calls Try.prog 55 #[.int .i64 n, .int .i64 lo, .int .i64 hi] w fun e w' => e = .returned (.bool (decide (lo ≤ n ∧ n ≤ hi))) ∧ w = w' := by
  go_enter Try.func55, Try.ntmps55
  go_wp2
  all_goals
    go_ret
    refine ⟨ret1b ?_, rfl⟩
    rw [Bool.eq_iff_iff]
    simp
    omega
end Go.Proofs.Ytnnmdcagbcdfpaa
