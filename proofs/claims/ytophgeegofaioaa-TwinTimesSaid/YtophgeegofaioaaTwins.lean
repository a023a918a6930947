/- What the functions on twins answer. -/
import Derived.Test.YtophgeegofaioaaWeights
namespace Go.Proofs.Ytophgeegofaioaa
open Go.RowKit
set_option linter.unusedSimpArgs false
set_option linter.unusedVariables false

def mayT (x y : Int) : Prop := (x = 1000000001 ∧ y = 1000000001) ∨ ((0 ≤ x ∧ x ≤ 1000000000) ∧ 0 ≤ y ∧ y ≤ 1000000000)
instance (x y : Int) : Decidable (mayT x y) := by unfold mayT; exact inferInstance


/-- A box of a twin. -/
def tbox (a b : Int) : Obj := .cells #[.int .i64 a, .int .i64 b] 28

theorem twin_may (x y : Int) (w : World) : Calls Try.prog 43 #[.agg #[.int .i64 x, .int .i64 y]] w fun e w' => e = .returned (.bool (decide (mayT x y))) ∧ w.alloc (.cells #[.int .i64 x, .int .i64 y] 28) = w' := by
  go_enter Try.func43, Try.ntmps43
  go_wp2
  all_goals
    go_ret
    refine ⟨ret1b ?_, (by first | rfl | (simp [*]; done))⟩
    rw [Bool.eq_iff_iff, decide_eq_true_iff]
    unfold mayT
    simp only [beq_iff_eq, Bool.or_eq_true, Bool.and_eq_true, decide_eq_true_eq, Bool.false_eq_true, Bool.true_eq_false, true_iff, false_iff, Bool.or_eq_false_iff, beq_eq_false_iff_ne] at *
    (first | omega | (simp; done) | (simp; omega) | (simp_all; done) | (simp_all; omega))

theorem ref_TwinMay (x y : Int) (w : World) : Calls Try.prog 44 #[.agg #[.int .i64 x, .int .i64 y]] w fun e w' => e = .returned (.bool (decide (mayT x y))) ∧ w.alloc (.cells #[.int .i64 x, .int .i64 y] 28) = w' := by
  go_enter Try.func44, Try.ntmps44
  go_wp2_with (go_at_call 54; refine (ref_In _ _ _ _).mono ?_; rintro e w' ⟨rfl, rfl⟩)
  all_goals
    go_ret
    refine ⟨ret1b ?_, (by first | rfl | (simp [*]; done))⟩
    rw [Bool.eq_iff_iff, decide_eq_true_iff]
    unfold mayT
    simp only [beq_iff_eq, Bool.or_eq_true, Bool.and_eq_true, decide_eq_true_eq, Bool.false_eq_true, Bool.true_eq_false, true_iff, false_iff, Bool.or_eq_false_iff, beq_eq_false_iff_ne] at *
    (first | omega | (simp; done) | (simp; omega) | (simp_all; done) | (simp_all; omega))

def lessT (a b c d : Int) : Prop := a < c ∨ (a = c ∧ b < d)
instance (a b c d : Int) : Decidable (lessT a b c d) := by unfold lessT; exact inferInstance

theorem twin_Less (a b c d : Int) (w : World) : Calls Try.prog 16 #[.agg #[.int .i64 a, .int .i64 b], .agg #[.int .i64 c, .int .i64 d]] w fun e w' => e = .returned (.bool (decide (lessT a b c d))) ∧ (w.alloc (.cells #[.int .i64 a, .int .i64 b] 28)).alloc (.cells #[.int .i64 c, .int .i64 d] 28) = w' := by
  go_enter Try.func16, Try.ntmps16
  go_wp2_with fail
  all_goals
    go_ret
    refine ⟨ret1b ?_, (by first | rfl | (simp [*]; done))⟩
    rw [Bool.eq_iff_iff, decide_eq_true_iff]
    unfold lessT
    (first | omega | (simp; done) | (simp; omega) | (simp_all; done) | (simp_all; omega))

theorem ref_TwinLess (a b c d : Int) (w : World) : Calls Try.prog 17 #[.agg #[.int .i64 a, .int .i64 b], .agg #[.int .i64 c, .int .i64 d]] w fun e w' => e = .returned (.bool (decide (lessT a b c d))) ∧ (w.alloc (.cells #[.int .i64 a, .int .i64 b] 28)).alloc (.cells #[.int .i64 c, .int .i64 d] 28) = w' := by
  go_enter Try.func17, Try.ntmps17
  go_wp2_with fail
  all_goals
    go_ret
    refine ⟨ret1b ?_, (by first | rfl | (simp [*]; done))⟩
    rw [Bool.eq_iff_iff, decide_eq_true_iff]
    unfold lessT
    (first | omega | (simp; done) | (simp; omega) | (simp_all; done) | (simp_all; omega))

def tagg (a b : Int) : Value := .agg #[.int .i64 a, .int .i64 b]
def plusTV (a b c d : Int) : Value := if mayT a b ∧ mayT c d then (if lessT c d a b then tagg c d else tagg a b) else tagg 0 0
def plusTE (a b c d : Int) : Int := if mayT a b ∧ mayT c d then 0 else 2

theorem twin_Plus (a b c d : Int) (w : World) : Calls Try.prog 24 #[.agg #[.int .i64 a, .int .i64 b], .agg #[.int .i64 c, .int .i64 d]] w fun e w' =>
    e = .returned (.tuple #[plusTV a b c d, .int .i64 (plusTE a b c d)]) ∧ Below w.heap.size w w' := by
  by_cases h1 : mayT a b <;> by_cases h2 : mayT c d <;> by_cases h3 : lessT c d a b
  all_goals
    go_enter Try.func24, Try.ntmps24
    go_wp2_with (first | (go_at_call 43; refine (twin_may _ _ _).mono ?_; rintro e w1 ⟨rfl, rfl⟩) | (go_at_call 16; refine (twin_Less _ _ _ _ _).mono ?_; rintro e w1 ⟨rfl, rfl⟩))
    refine bodyPost_ret (v := .tuple #[plusTV a b c d, .int .i64 (plusTE a b c d)]) ?_ rfl ⟨rfl, ?_⟩
    · simp [results, Try.results24, go_sem, h1, h2, h3, plusTV, plusTE, tagg]
    · exact (by repeat' (first | exact Below.refl _ _ | (refine Below.drewN ?_ _) | (refine Below.drew ?_) | (refine Below.alloc ?_ (by simp; done) _) | (refine Below.alloc ?_ (by simp; omega) _) | (refine Below.setCell ?_ (by simp; done) _) | (refine Below.setCell ?_ (by simp; omega) _) | (refine Below.trans ?_ (Below.mono (by assumption) (by first | (simp; done) | (simp; omega) | omega | (simp [*]; done))))))

theorem lessT_swap {a b c d : Int} (h : lessT a b c d) : ¬ lessT c d a b := by unfold lessT at *; omega
theorem lessT_same {a b c d : Int} (h : ¬ lessT a b c d) (g : ¬ lessT c d a b) : a = c ∧ b = d := by unfold lessT at *; omega

theorem ref_TwinAdded (a b c d : Int) (w : World) : Calls Try.prog 25 #[.agg #[.int .i64 a, .int .i64 b], .agg #[.int .i64 c, .int .i64 d]] w fun e w' =>
    e = .returned (.tuple #[plusTV a b c d, .int .i64 (plusTE a b c d)]) ∧ Below w.heap.size w w' := by
  by_cases h1 : mayT a b <;> by_cases h2 : mayT c d <;> by_cases h3 : lessT a b c d
  all_goals
    have hp : plusTV a b c d = if mayT a b ∧ mayT c d then (if lessT a b c d then tagg a b else tagg c d) else tagg 0 0 := by
      unfold plusTV
      by_cases h4 : lessT c d a b
      · simp [h4, lessT_swap h4]
      · by_cases h5 : lessT a b c d
        · simp [h4, h5]
        · obtain ⟨rfl, rfl⟩ := lessT_same h4 h5
          simp
    have Hp := Lib.hid hp
    clear hp
    go_enter Try.func25, Try.ntmps25
    go_wp2_with (first | (go_at_call 44; refine (ref_TwinMay _ _ _).mono ?_; rintro e w1 ⟨rfl, rfl⟩) | (go_at_call 17; refine (ref_TwinLess _ _ _ _ _).mono ?_; rintro e w1 ⟨rfl, rfl⟩))
    refine bodyPost_ret (v := .tuple #[plusTV a b c d, .int .i64 (plusTE a b c d)]) ?_ rfl ⟨rfl, ?_⟩
    · rw [Hp.out]
      simp [results, Try.results25, go_sem, h1, h2, h3, plusTE, tagg]
    · exact (by repeat' (first | exact Below.refl _ _ | (refine Below.drewN ?_ _) | (refine Below.drew ?_) | (refine Below.alloc ?_ (by simp; done) _) | (refine Below.alloc ?_ (by simp; omega) _) | (refine Below.setCell ?_ (by simp; done) _) | (refine Below.setCell ?_ (by simp; omega) _) | (refine Below.trans ?_ (Below.mono (by assumption) (by first | (simp; done) | (simp; omega) | omega | (simp [*]; done))))))
end Go.Proofs.Ytophgeegofaioaa
