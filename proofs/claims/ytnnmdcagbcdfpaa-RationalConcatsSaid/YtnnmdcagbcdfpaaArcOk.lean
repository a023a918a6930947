/- core.Check and ref.Fault: what is wrong with a machine. -/
import Derived.Test.YtnnmdcagbcdfpaaMach
import Derived.Test.YtnnmdcagbcdfpaaKeep
import Derived.Test.YtnnmdcagbcdfpaaRefNum
namespace Go.Proofs.Ytnnmdcagbcdfpaa
open Go.RowKit
set_option linter.unusedSimpArgs false
set_option linter.unusedVariables false

def arOk (n : Int) (a : Ar) : Bool := decide ((0 ≤ a.i ∧ a.i ≤ 1000) ∧ (0 ≤ a.o ∧ a.o ≤ 1000) ∧ (0 ≤ a.w ∧ a.w ≤ 1000000000) ∧ 0 ≤ a.t ∧ a.t < n)
theorem arOk_yes {n : Int} {a : Ar} (h : (0 ≤ a.i ∧ a.i ≤ 1000) ∧ (0 ≤ a.o ∧ a.o ≤ 1000) ∧ (0 ≤ a.w ∧ a.w ≤ 1000000000) ∧ 0 ≤ a.t ∧ a.t < n) : arOk n a = true := by simp only [arOk, h, decide_true, and_self]
theorem arOk_no {n : Int} {a : Ar} (h : ¬ ((0 ≤ a.i ∧ a.i ≤ 1000) ∧ (0 ≤ a.o ∧ a.o ≤ 1000) ∧ (0 ≤ a.w ∧ a.w ≤ 1000000000) ∧ 0 ≤ a.t ∧ a.t < n)) : arOk n a = false := by simp only [arOk, h, decide_false]
def finOk (x : Int) : Bool := decide (0 ≤ x ∧ x ≤ 1000000001)
def stOk (n : Int) (s : St) : Bool := finOk s.fin && s.arcs.all (arOk n)
def arcN (l : List St) : Nat := (l.map fun s => s.arcs.length).sum
def startOk (m : Mach) : Prop := -1 ≤ m.start ∧ m.start < m.states.length
instance (m : Mach) : Decidable (startOk m) := inferInstanceAs (Decidable (_ ∧ _))
/-- What is wrong with a machine: 1 a size, 2 a number out of range, 0 nothing. -/
def machE (m : Mach) : Int := if 60 < m.states.length ∨ 400 < arcN m.states then 1 else if startOk m ∧ m.states.all (stOk m.states.length) = true then 0 else 2

theorem arcN_snoc (l : List St) (s : St) : arcN (l ++ [s]) = arcN l + s.arcs.length := by simp [arcN]
theorem all_snoc' {α : Type} {xs : List α} {k : Nat} {x : α} {p : α → Bool} (hx : xs[k]? = some x) (h : (xs.take k).all p = true) (hp : p x = true) : (xs.take (k + 1)).all p = true := by
  rw [take_snoc hx, List.all_append, h]; simp [hp]
theorem all_not {α : Type} {xs : List α} {k : Nat} {x : α} {p : α → Bool} (hx : xs[k]? = some x) (hp : p x = false) : xs.all p = false := by
  rw [Bool.eq_false_iff]
  intro h
  have := List.all_eq_true.1 h x (List.mem_of_getElem? hx)
  rw [hp] at this
  exact absurd this (by simp)
theorem stOk_arc {n : Int} {s : St} {k : Nat} {a : Ar} (h : s.arcs[k]? = some a) (ha : arOk n a = false) : stOk n s = false := by
  simp only [stOk, all_not h ha, Bool.and_false]
theorem stOk_fin {n : Int} {s : St} (h : finOk s.fin = false) : stOk n s = false := by simp only [stOk, h, Bool.false_and]
theorem stOk_arcs {n : Int} {s : St} (h : s.arcs.all (arOk n) = false) : stOk n s = false := by simp only [stOk, h, Bool.and_false]
theorem stOk_yes {n : Int} {s : St} (h : finOk s.fin = true) (g : s.arcs.all (arOk n) = true) : stOk n s = true := by simp only [stOk, h, g, Bool.and_self]
theorem machE_size {st : Int} {sts : List St} (h : 60 < sts.length ∨ 400 < arcN sts) : machE ⟨st, sts⟩ = 1 := by unfold machE; rw [if_pos h]
theorem machE_start {st : Int} {sts : List St} {len : Nat} (hl : sts.length = len) (h1 : ¬ 60 < len) (h2 : ¬ 400 < arcN sts) (h3 : ¬ (-1 ≤ st ∧ st < len)) : machE ⟨st, sts⟩ = 2 := by
  subst hl
  unfold machE startOk
  rw [if_neg (by simp only; omega), if_neg (fun h => h3 h.1)]
theorem machE_state {st : Int} {sts : List St} {len k : Nat} {x : St} (hl : sts.length = len) (h1 : ¬ 60 < len) (h2 : ¬ 400 < arcN sts) (h3 : sts[k]? = some x) (h4 : stOk len x = false) : machE ⟨st, sts⟩ = 2 := by
  subst hl
  unfold machE
  rw [if_neg (by simp only; omega), if_neg (fun h => by have := h.2; simp only [all_not h3 h4] at this; exact absurd this (by simp))]
theorem machE_good {st : Int} {sts : List St} {len k : Nat} (hl : sts.length = len) (h1 : ¬ 60 < len) (h2 : ¬ 400 < arcN sts) (h3 : -1 ≤ st ∧ st < len) (hk : ¬ k < len) (h4 : (sts.take k).all (stOk len) = true) : machE ⟨st, sts⟩ = 0 := by
  subst hl
  rw [List.take_of_length_le (by omega)] at h4
  unfold machE startOk
  rw [if_neg (by simp only; omega), if_pos ⟨h3, h4⟩]
/-- A machine with which nothing is wrong. -/
theorem machE_zero {m : Mach} (h : machE m = 0) : m.states.length ≤ 60 ∧ arcN m.states ≤ 400 ∧ (-1 ≤ m.start ∧ m.start < m.states.length) ∧ ∀ s ∈ m.states, finOk s.fin = true ∧ ∀ a ∈ s.arcs, arOk m.states.length a = true := by
  unfold machE at h
  by_cases h1 : 60 < m.states.length ∨ 400 < arcN m.states
  · rw [if_pos h1] at h; exact absurd h (by decide)
  · rw [if_neg h1] at h
    by_cases h2 : startOk m ∧ m.states.all (stOk m.states.length) = true
    · refine ⟨by omega, by omega, h2.1, fun s hs => ?_⟩
      have h3 := List.all_eq_true.1 h2.2 s hs
      simp only [stOk, Bool.and_eq_true] at h3
      exact ⟨h3.1, fun a ha => List.all_eq_true.1 h3.2 a ha⟩
    · rw [if_neg h2] at h; exact absurd h (by decide)
theorem arcN_full {sts : List St} {len k : Nat} (hl : sts.length = len) (hk : ¬ k < len) : arcN (sts.take k) = arcN sts := by rw [List.take_of_length_le (by omega)]

theorem core_weight (x : Int) (w : World) : Calls Try.prog 70 #[.int .i64 x] w fun e w' => e = .returned (.bool (decide (0 ≤ x ∧ x ≤ 1000000000))) ∧ w = w' := by
  go_enter Try.func70, Try.ntmps70
  go_wp2
  all_goals
    go_ret
    refine ⟨ret1b ?_, rfl⟩
    rw [Bool.eq_iff_iff]
    simp
    omega
theorem core_weight_yes (x : Int) (w : World) (h : 0 ≤ x ∧ x ≤ 1000000000) : Calls Try.prog 70 #[.int .i64 x] w fun e w' => e = .returned (.bool true) ∧ w = w' :=
  (core_weight x w).mono fun _ _ ⟨h1, h2⟩ => ⟨by rw [h1, decide_eq_true h], h2⟩
theorem core_weight_no (x : Int) (w : World) (h : ¬ (0 ≤ x ∧ x ≤ 1000000000)) : Calls Try.prog 70 #[.int .i64 x] w fun e w' => e = .returned (.bool false) ∧ w = w' :=
  (core_weight x w).mono fun _ _ ⟨h1, h2⟩ => ⟨by rw [h1, decide_eq_false h], h2⟩
theorem core_label (x : Int) (w : World) : Calls Try.prog 78 #[.int .i64 x] w fun e w' => e = .returned (.bool (decide (0 ≤ x ∧ x ≤ 1000))) ∧ w = w' := by
  go_enter Try.func78, Try.ntmps78
  go_wp2
  all_goals
    go_ret
    refine ⟨ret1b ?_, rfl⟩
    rw [Bool.eq_iff_iff]
    simp
    omega

set_option maxHeartbeats 1000000 in
theorem core_arc (i o c t n : Int) (w : World) : Calls Try.prog 73 #[.agg #[.int .i64 i, .int .i64 o, .int .i64 c, .int .i64 t], .int .i64 n] w fun e w' => e = .returned (.bool (arOk n ⟨i, o, c, t⟩)) ∧ Below w.heap.size w w' := by
  by_cases h1 : 0 ≤ i ∧ i ≤ 1000
  · by_cases h2 : 0 ≤ o ∧ o ≤ 1000
    · by_cases h3 : 0 ≤ c ∧ c ≤ 1000000000
      · by_cases h4 : 0 ≤ t
        · by_cases h5 : t < n
          · go_enter Try.func73, Try.ntmps73
            go_wp2_with (first | (go_at_call 78; refine (core_label _ _).mono ?_; rintro e w1 ⟨rfl, rfl⟩) | (go_at_call 70; refine (core_weight _ _).mono ?_; rintro e w1 ⟨rfl, rfl⟩))
            go_ret
            first | exact ⟨ret1b (arOk_yes (by simp only; omega)).symm, (by repeat' (first | (with_reducible exact Below.refl _ _) | (with_reducible assumption) | (with_reducible refine Below.dr ?_ _) | (with_reducible refine Below.d1 ?_) | (with_reducible refine Below.al ?_ _) | (with_reducible refine Below.tr ?_ (by assumption)) | (with_reducible refine Below.drewN ?_ _) | (with_reducible refine Below.drew ?_) | (with_reducible refine Below.alloc ?_ ?_ _) | (with_reducible refine Below.setCell ?_ ?_ _) | (with_reducible refine Below.trans ?_ (Below.mono (by assumption) ?_)) | omega | (simp; done) | (simp; omega) | (simp [*]; done)))⟩ | exact ⟨ret1b (arOk_no (by simp only; omega)).symm, (by repeat' (first | (with_reducible exact Below.refl _ _) | (with_reducible assumption) | (with_reducible refine Below.dr ?_ _) | (with_reducible refine Below.d1 ?_) | (with_reducible refine Below.al ?_ _) | (with_reducible refine Below.tr ?_ (by assumption)) | (with_reducible refine Below.drewN ?_ _) | (with_reducible refine Below.drew ?_) | (with_reducible refine Below.alloc ?_ ?_ _) | (with_reducible refine Below.setCell ?_ ?_ _) | (with_reducible refine Below.trans ?_ (Below.mono (by assumption) ?_)) | omega | (simp; done) | (simp; omega) | (simp [*]; done)))⟩ | exact ⟨ret1b (by rw [Bool.eq_iff_iff]; simp [arOk]; omega), (by repeat' (first | (with_reducible exact Below.refl _ _) | (with_reducible assumption) | (with_reducible refine Below.dr ?_ _) | (with_reducible refine Below.d1 ?_) | (with_reducible refine Below.al ?_ _) | (with_reducible refine Below.tr ?_ (by assumption)) | (with_reducible refine Below.drewN ?_ _) | (with_reducible refine Below.drew ?_) | (with_reducible refine Below.alloc ?_ ?_ _) | (with_reducible refine Below.setCell ?_ ?_ _) | (with_reducible refine Below.trans ?_ (Below.mono (by assumption) ?_)) | omega | (simp; done) | (simp; omega) | (simp [*]; done)))⟩
          · go_enter Try.func73, Try.ntmps73
            go_wp2_with (first | (go_at_call 78; refine (core_label _ _).mono ?_; rintro e w1 ⟨rfl, rfl⟩) | (go_at_call 70; refine (core_weight _ _).mono ?_; rintro e w1 ⟨rfl, rfl⟩))
            go_ret
            first | exact ⟨ret1b (arOk_yes (by simp only; omega)).symm, (by repeat' (first | (with_reducible exact Below.refl _ _) | (with_reducible assumption) | (with_reducible refine Below.dr ?_ _) | (with_reducible refine Below.d1 ?_) | (with_reducible refine Below.al ?_ _) | (with_reducible refine Below.tr ?_ (by assumption)) | (with_reducible refine Below.drewN ?_ _) | (with_reducible refine Below.drew ?_) | (with_reducible refine Below.alloc ?_ ?_ _) | (with_reducible refine Below.setCell ?_ ?_ _) | (with_reducible refine Below.trans ?_ (Below.mono (by assumption) ?_)) | omega | (simp; done) | (simp; omega) | (simp [*]; done)))⟩ | exact ⟨ret1b (arOk_no (by simp only; omega)).symm, (by repeat' (first | (with_reducible exact Below.refl _ _) | (with_reducible assumption) | (with_reducible refine Below.dr ?_ _) | (with_reducible refine Below.d1 ?_) | (with_reducible refine Below.al ?_ _) | (with_reducible refine Below.tr ?_ (by assumption)) | (with_reducible refine Below.drewN ?_ _) | (with_reducible refine Below.drew ?_) | (with_reducible refine Below.alloc ?_ ?_ _) | (with_reducible refine Below.setCell ?_ ?_ _) | (with_reducible refine Below.trans ?_ (Below.mono (by assumption) ?_)) | omega | (simp; done) | (simp; omega) | (simp [*]; done)))⟩ | exact ⟨ret1b (by rw [Bool.eq_iff_iff]; simp [arOk]; omega), (by repeat' (first | (with_reducible exact Below.refl _ _) | (with_reducible assumption) | (with_reducible refine Below.dr ?_ _) | (with_reducible refine Below.d1 ?_) | (with_reducible refine Below.al ?_ _) | (with_reducible refine Below.tr ?_ (by assumption)) | (with_reducible refine Below.drewN ?_ _) | (with_reducible refine Below.drew ?_) | (with_reducible refine Below.alloc ?_ ?_ _) | (with_reducible refine Below.setCell ?_ ?_ _) | (with_reducible refine Below.trans ?_ (Below.mono (by assumption) ?_)) | omega | (simp; done) | (simp; omega) | (simp [*]; done)))⟩
        · go_enter Try.func73, Try.ntmps73
          go_wp2_with (first | (go_at_call 78; refine (core_label _ _).mono ?_; rintro e w1 ⟨rfl, rfl⟩) | (go_at_call 70; refine (core_weight _ _).mono ?_; rintro e w1 ⟨rfl, rfl⟩))
          go_ret
          first | exact ⟨ret1b (arOk_yes (by simp only; omega)).symm, (by repeat' (first | (with_reducible exact Below.refl _ _) | (with_reducible assumption) | (with_reducible refine Below.dr ?_ _) | (with_reducible refine Below.d1 ?_) | (with_reducible refine Below.al ?_ _) | (with_reducible refine Below.tr ?_ (by assumption)) | (with_reducible refine Below.drewN ?_ _) | (with_reducible refine Below.drew ?_) | (with_reducible refine Below.alloc ?_ ?_ _) | (with_reducible refine Below.setCell ?_ ?_ _) | (with_reducible refine Below.trans ?_ (Below.mono (by assumption) ?_)) | omega | (simp; done) | (simp; omega) | (simp [*]; done)))⟩ | exact ⟨ret1b (arOk_no (by simp only; omega)).symm, (by repeat' (first | (with_reducible exact Below.refl _ _) | (with_reducible assumption) | (with_reducible refine Below.dr ?_ _) | (with_reducible refine Below.d1 ?_) | (with_reducible refine Below.al ?_ _) | (with_reducible refine Below.tr ?_ (by assumption)) | (with_reducible refine Below.drewN ?_ _) | (with_reducible refine Below.drew ?_) | (with_reducible refine Below.alloc ?_ ?_ _) | (with_reducible refine Below.setCell ?_ ?_ _) | (with_reducible refine Below.trans ?_ (Below.mono (by assumption) ?_)) | omega | (simp; done) | (simp; omega) | (simp [*]; done)))⟩ | exact ⟨ret1b (by rw [Bool.eq_iff_iff]; simp [arOk]; omega), (by repeat' (first | (with_reducible exact Below.refl _ _) | (with_reducible assumption) | (with_reducible refine Below.dr ?_ _) | (with_reducible refine Below.d1 ?_) | (with_reducible refine Below.al ?_ _) | (with_reducible refine Below.tr ?_ (by assumption)) | (with_reducible refine Below.drewN ?_ _) | (with_reducible refine Below.drew ?_) | (with_reducible refine Below.alloc ?_ ?_ _) | (with_reducible refine Below.setCell ?_ ?_ _) | (with_reducible refine Below.trans ?_ (Below.mono (by assumption) ?_)) | omega | (simp; done) | (simp; omega) | (simp [*]; done)))⟩
      · go_enter Try.func73, Try.ntmps73
        go_wp2_with (first | (go_at_call 78; refine (core_label _ _).mono ?_; rintro e w1 ⟨rfl, rfl⟩) | (go_at_call 70; refine (core_weight _ _).mono ?_; rintro e w1 ⟨rfl, rfl⟩))
        go_ret
        first | exact ⟨ret1b (arOk_yes (by simp only; omega)).symm, (by repeat' (first | (with_reducible exact Below.refl _ _) | (with_reducible assumption) | (with_reducible refine Below.dr ?_ _) | (with_reducible refine Below.d1 ?_) | (with_reducible refine Below.al ?_ _) | (with_reducible refine Below.tr ?_ (by assumption)) | (with_reducible refine Below.drewN ?_ _) | (with_reducible refine Below.drew ?_) | (with_reducible refine Below.alloc ?_ ?_ _) | (with_reducible refine Below.setCell ?_ ?_ _) | (with_reducible refine Below.trans ?_ (Below.mono (by assumption) ?_)) | omega | (simp; done) | (simp; omega) | (simp [*]; done)))⟩ | exact ⟨ret1b (arOk_no (by simp only; omega)).symm, (by repeat' (first | (with_reducible exact Below.refl _ _) | (with_reducible assumption) | (with_reducible refine Below.dr ?_ _) | (with_reducible refine Below.d1 ?_) | (with_reducible refine Below.al ?_ _) | (with_reducible refine Below.tr ?_ (by assumption)) | (with_reducible refine Below.drewN ?_ _) | (with_reducible refine Below.drew ?_) | (with_reducible refine Below.alloc ?_ ?_ _) | (with_reducible refine Below.setCell ?_ ?_ _) | (with_reducible refine Below.trans ?_ (Below.mono (by assumption) ?_)) | omega | (simp; done) | (simp; omega) | (simp [*]; done)))⟩ | exact ⟨ret1b (by rw [Bool.eq_iff_iff]; simp [arOk]; omega), (by repeat' (first | (with_reducible exact Below.refl _ _) | (with_reducible assumption) | (with_reducible refine Below.dr ?_ _) | (with_reducible refine Below.d1 ?_) | (with_reducible refine Below.al ?_ _) | (with_reducible refine Below.tr ?_ (by assumption)) | (with_reducible refine Below.drewN ?_ _) | (with_reducible refine Below.drew ?_) | (with_reducible refine Below.alloc ?_ ?_ _) | (with_reducible refine Below.setCell ?_ ?_ _) | (with_reducible refine Below.trans ?_ (Below.mono (by assumption) ?_)) | omega | (simp; done) | (simp; omega) | (simp [*]; done)))⟩
    · go_enter Try.func73, Try.ntmps73
      go_wp2_with (first | (go_at_call 78; refine (core_label _ _).mono ?_; rintro e w1 ⟨rfl, rfl⟩) | (go_at_call 70; refine (core_weight _ _).mono ?_; rintro e w1 ⟨rfl, rfl⟩))
      go_ret
      first | exact ⟨ret1b (arOk_yes (by simp only; omega)).symm, (by repeat' (first | (with_reducible exact Below.refl _ _) | (with_reducible assumption) | (with_reducible refine Below.dr ?_ _) | (with_reducible refine Below.d1 ?_) | (with_reducible refine Below.al ?_ _) | (with_reducible refine Below.tr ?_ (by assumption)) | (with_reducible refine Below.drewN ?_ _) | (with_reducible refine Below.drew ?_) | (with_reducible refine Below.alloc ?_ ?_ _) | (with_reducible refine Below.setCell ?_ ?_ _) | (with_reducible refine Below.trans ?_ (Below.mono (by assumption) ?_)) | omega | (simp; done) | (simp; omega) | (simp [*]; done)))⟩ | exact ⟨ret1b (arOk_no (by simp only; omega)).symm, (by repeat' (first | (with_reducible exact Below.refl _ _) | (with_reducible assumption) | (with_reducible refine Below.dr ?_ _) | (with_reducible refine Below.d1 ?_) | (with_reducible refine Below.al ?_ _) | (with_reducible refine Below.tr ?_ (by assumption)) | (with_reducible refine Below.drewN ?_ _) | (with_reducible refine Below.drew ?_) | (with_reducible refine Below.alloc ?_ ?_ _) | (with_reducible refine Below.setCell ?_ ?_ _) | (with_reducible refine Below.trans ?_ (Below.mono (by assumption) ?_)) | omega | (simp; done) | (simp; omega) | (simp [*]; done)))⟩ | exact ⟨ret1b (by rw [Bool.eq_iff_iff]; simp [arOk]; omega), (by repeat' (first | (with_reducible exact Below.refl _ _) | (with_reducible assumption) | (with_reducible refine Below.dr ?_ _) | (with_reducible refine Below.d1 ?_) | (with_reducible refine Below.al ?_ _) | (with_reducible refine Below.tr ?_ (by assumption)) | (with_reducible refine Below.drewN ?_ _) | (with_reducible refine Below.drew ?_) | (with_reducible refine Below.alloc ?_ ?_ _) | (with_reducible refine Below.setCell ?_ ?_ _) | (with_reducible refine Below.trans ?_ (Below.mono (by assumption) ?_)) | omega | (simp; done) | (simp; omega) | (simp [*]; done)))⟩
  · go_enter Try.func73, Try.ntmps73
    go_wp2_with (first | (go_at_call 78; refine (core_label _ _).mono ?_; rintro e w1 ⟨rfl, rfl⟩) | (go_at_call 70; refine (core_weight _ _).mono ?_; rintro e w1 ⟨rfl, rfl⟩))
    go_ret
    first | exact ⟨ret1b (arOk_yes (by simp only; omega)).symm, (by repeat' (first | (with_reducible exact Below.refl _ _) | (with_reducible assumption) | (with_reducible refine Below.dr ?_ _) | (with_reducible refine Below.d1 ?_) | (with_reducible refine Below.al ?_ _) | (with_reducible refine Below.tr ?_ (by assumption)) | (with_reducible refine Below.drewN ?_ _) | (with_reducible refine Below.drew ?_) | (with_reducible refine Below.alloc ?_ ?_ _) | (with_reducible refine Below.setCell ?_ ?_ _) | (with_reducible refine Below.trans ?_ (Below.mono (by assumption) ?_)) | omega | (simp; done) | (simp; omega) | (simp [*]; done)))⟩ | exact ⟨ret1b (arOk_no (by simp only; omega)).symm, (by repeat' (first | (with_reducible exact Below.refl _ _) | (with_reducible assumption) | (with_reducible refine Below.dr ?_ _) | (with_reducible refine Below.d1 ?_) | (with_reducible refine Below.al ?_ _) | (with_reducible refine Below.tr ?_ (by assumption)) | (with_reducible refine Below.drewN ?_ _) | (with_reducible refine Below.drew ?_) | (with_reducible refine Below.alloc ?_ ?_ _) | (with_reducible refine Below.setCell ?_ ?_ _) | (with_reducible refine Below.trans ?_ (Below.mono (by assumption) ?_)) | omega | (simp; done) | (simp; omega) | (simp [*]; done)))⟩ | exact ⟨ret1b (by rw [Bool.eq_iff_iff]; simp [arOk]; omega), (by repeat' (first | (with_reducible exact Below.refl _ _) | (with_reducible assumption) | (with_reducible refine Below.dr ?_ _) | (with_reducible refine Below.d1 ?_) | (with_reducible refine Below.al ?_ _) | (with_reducible refine Below.tr ?_ (by assumption)) | (with_reducible refine Below.drewN ?_ _) | (with_reducible refine Below.drew ?_) | (with_reducible refine Below.alloc ?_ ?_ _) | (with_reducible refine Below.setCell ?_ ?_ _) | (with_reducible refine Below.trans ?_ (Below.mono (by assumption) ?_)) | omega | (simp; done) | (simp; omega) | (simp [*]; done)))⟩

theorem core_Check1 (a : Ar) (B : Nat) (n : Int) (w : World) (hn : w.cell? ⟨B, 0, none⟩ = some (.int .i64 n)) : Calls Try.prog 72 #[.agg #[.int .i64 a.i, .int .i64 a.o, .int .i64 a.w, .int .i64 a.t], .pointer (some ⟨B, 0, none⟩)] w fun e w' => e = .returned (.bool (!arOk n a)) ∧ Below w.heap.size w w' := by
  have hb0 := blt hn
  go_enter Try.func72, Try.ntmps72
  go_wp2_with (go_at_call 73; refine (core_arc _ _ _ _ _ _).mono ?_; rintro e w1 ⟨rfl, hb⟩)
  go_ret
  exact ⟨rfl, (by repeat' (first | (with_reducible exact Below.refl _ _) | (with_reducible assumption) | (with_reducible refine Below.dr ?_ _) | (with_reducible refine Below.d1 ?_) | (with_reducible refine Below.al ?_ _) | (with_reducible refine Below.tr ?_ (by assumption)) | (with_reducible refine Below.drewN ?_ _) | (with_reducible refine Below.drew ?_) | (with_reducible refine Below.alloc ?_ ?_ _) | (with_reducible refine Below.setCell ?_ ?_ _) | (with_reducible refine Below.trans ?_ (Below.mono (by assumption) ?_)) | omega | (simp; done) | (simp; omega) | (simp [*]; done)))⟩

set_option maxHeartbeats 1000000 in
theorem slices_IndexFunc (v : Value) (l : List Ar) (B : Nat) (n : Int) (w : World) (h : ArcsAt w v l) (hn : w.cell? ⟨B, 0, none⟩ = some (.int .i64 n)) :
    Calls Try.prog 77 #[v, .func (.func 72) #[] #[.pointer (some ⟨B, 0, none⟩)]] w fun e w' => ∃ k : Int, e = .returned (.int .i64 k) ∧ decide (0 ≤ k) = (!l.all (arOk n)) ∧ Below w.heap.size w w' := by
  obtain ⟨a, len, cap, rfl, hl, H, Hl⟩ := ArcsAt.opens h
  clear h
  have hB := blt hn
  go_enter Try.func77, Try.ntmps77
  go_wp2_with fail
  go_loopw [8] (fun i wr => ∃ k : Nat, k ≤ len ∧ i = .int .i64 k ∧ (l.take k).all (arOk n) = true ∧ Below w.heap.size w wr) (fun i _ => len - (intOf i).toNat)
  case atStart => exact ⟨0, Nat.zero_le _, rfl, rfl, Below.refl _ _⟩
  case round =>
    obtain ⟨k, hk, rfl, hall, hbel⟩ := hrel
    have Hall := Lib.hid hall
    clear hall
    by_cases hlt : k < len
    · obtain ⟨b, o, x, rfl, hx, c0, c1, c2, c3⟩ := ArcsAt.at (ArcsAt.mono H.out hbel) hlt
      have hn' := (hbel.cell (p := ⟨B, 0, none⟩) hB).trans hn
      have Hx := Lib.hid hx
      clear hx
      by_cases ha : arOk n x = true
      · go_wp2_with (go_at_call 72; refine (core_Check1 x _ n _ hn').mono ?_; rintro e w1 ⟨rfl, hb⟩)
        go_roundw
        case rel => exact ⟨k + 1, by omega, by go_num, all_snoc' Hx.out Hall.out ha, (by repeat' (first | (with_reducible exact Below.refl _ _) | (with_reducible assumption) | (with_reducible refine Below.dr ?_ _) | (with_reducible refine Below.d1 ?_) | (with_reducible refine Below.al ?_ _) | (with_reducible refine Below.tr ?_ (by assumption)) | (with_reducible refine Below.drewN ?_ _) | (with_reducible refine Below.drew ?_) | (with_reducible refine Below.alloc ?_ ?_ _) | (with_reducible refine Below.setCell ?_ ?_ _) | (with_reducible refine Below.trans ?_ (Below.mono (by assumption) ?_)) | omega | (simp; done) | (simp; omega) | (simp [*]; done)))⟩
        case measure => simp [intOf]; omega
      · have ha' : arOk n x = false := by simpa using ha
        go_wp2_with (go_at_call 72; refine (core_Check1 x _ n _ hn').mono ?_; rintro e w1 ⟨rfl, hb⟩)
        go_ret
        exact ⟨_, rfl, by rw [all_not Hx.out ha']; simp, (by repeat' (first | (with_reducible exact Below.refl _ _) | (with_reducible assumption) | (with_reducible refine Below.dr ?_ _) | (with_reducible refine Below.d1 ?_) | (with_reducible refine Below.al ?_ _) | (with_reducible refine Below.tr ?_ (by assumption)) | (with_reducible refine Below.drewN ?_ _) | (with_reducible refine Below.drew ?_) | (with_reducible refine Below.alloc ?_ ?_ _) | (with_reducible refine Below.setCell ?_ ?_ _) | (with_reducible refine Below.trans ?_ (Below.mono (by assumption) ?_)) | omega | (simp; done) | (simp; omega) | (simp [*]; done)))⟩
    · go_wp2_with fail
      go_ret
      have h1 := Hall.out
      rw [List.take_of_length_le (by rw [Hl.out]; omega)] at h1
      exact ⟨_, rfl, by rw [h1]; simp, (by repeat' (first | (with_reducible exact Below.refl _ _) | (with_reducible assumption) | (with_reducible refine Below.dr ?_ _) | (with_reducible refine Below.d1 ?_) | (with_reducible refine Below.al ?_ _) | (with_reducible refine Below.tr ?_ (by assumption)) | (with_reducible refine Below.drewN ?_ _) | (with_reducible refine Below.drew ?_) | (with_reducible refine Below.alloc ?_ ?_ _) | (with_reducible refine Below.setCell ?_ ?_ _) | (with_reducible refine Below.trans ?_ (Below.mono (by assumption) ?_)) | omega | (simp; done) | (simp; omega) | (simp [*]; done)))⟩

theorem slices_ContainsFunc (v : Value) (l : List Ar) (B : Nat) (n : Int) (w : World) (h : ArcsAt w v l) (hn : w.cell? ⟨B, 0, none⟩ = some (.int .i64 n)) :
    Calls Try.prog 71 #[v, .func (.func 72) #[] #[.pointer (some ⟨B, 0, none⟩)]] w fun e w' => e = .returned (.bool (!l.all (arOk n))) ∧ Below w.heap.size w w' := by
  have H := Lib.hid h
  clear h
  go_enter Try.func71, Try.ntmps71
  go_wp2_with fail
  refine (slices_IndexFunc _ l B n _ H.out hn).mono ?_
  rintro e w1 ⟨k, rfl, hk, hb⟩
  have Hk := Lib.hid hk
  clear hk
  go_wp2_with fail
  all_goals
    go_ret
    exact ⟨ret1b (by rw [← Hk.out]), hb⟩

end Go.Proofs.Ytnnmdcagbcdfpaa
