/- Machines as plain data: what is wrong with one; and how a walk without worlds tells them. -/
import Derived.Test.YthlcginebeapdaaMach
import Derived.Test.YthlcginebeapdaaAmT
import Derived.Test.YthlcginebeapdaaAmR
namespace Go.Proofs.Ythlcginebeapdaa
open Go.RowKit
set_option linter.unusedSimpArgs false
set_option linter.unusedVariables false

def arOk (n : Int) (a : Ar) : Bool := decide ((0 ≤ a.i ∧ a.i ≤ 1000) ∧ (0 ≤ a.o ∧ a.o ≤ 1000) ∧ (0 ≤ a.w ∧ a.w ≤ 1000000000) ∧ 0 ≤ a.t ∧ a.t < n)
theorem arOk_yes {n : Int} {a : Ar} (h : (0 ≤ a.i ∧ a.i ≤ 1000) ∧ (0 ≤ a.o ∧ a.o ≤ 1000) ∧ (0 ≤ a.w ∧ a.w ≤ 1000000000) ∧ 0 ≤ a.t ∧ a.t < n) : arOk n a = true := by simp only [arOk, h, decide_true, and_self]
theorem arOk_no {n : Int} {a : Ar} (h : ¬ ((0 ≤ a.i ∧ a.i ≤ 1000) ∧ (0 ≤ a.o ∧ a.o ≤ 1000) ∧ (0 ≤ a.w ∧ a.w ≤ 1000000000) ∧ 0 ≤ a.t ∧ a.t < n)) : arOk n a = false := by simp only [arOk, h, decide_false]
def finOk (x : Int) : Bool := decide (0 ≤ x ∧ x ≤ 1000000001)
def stOk (n : Int) (s : St) : Bool := finOk s.fin && s.arcs.all (arOk n)
def arcN (l : List St) : Nat := (l.map fun s => s.arcs.length).sum
def startOk (m : Mach) : Prop := -1 ≤ m.start ∧ m.start < m.states.length
instance (m : Mach) : Decidable (startOk m) := inferInstanceAs (Decidable (_ ∧ _))
/-- What is wrong with a machine: 1 a size, 2 a number out of range, 0 nothing. -/
def machE (m : Mach) : Int := if 60 < m.states.length ∨ 400 < arcN m.states then 1 else if startOk m ∧ m.states.all (stOk m.states.length) = true then 0 else 2

theorem arcN_snoc (l : List St) (s : St) : arcN (l ++ [s]) = arcN l + s.arcs.length := by simp [arcN]
theorem all_snoc' {α : Type} {xs : List α} {k : Nat} {x : α} {p : α → Bool} (hx : xs[k]? = some x) (h : (xs.take k).all p = true) (hp : p x = true) : (xs.take (k + 1)).all p = true := by
  rw [take_snoc hx, List.all_append, h]; simp [hp]
theorem all_not {α : Type} {xs : List α} {k : Nat} {x : α} {p : α → Bool} (hx : xs[k]? = some x) (hp : p x = false) : xs.all p = false := by
  rw [Bool.eq_false_iff]
  intro h
  have := List.all_eq_true.1 h x (List.mem_of_getElem? hx)
  rw [hp] at this
  exact absurd this (by simp)
theorem stOk_arc {n : Int} {s : St} {k : Nat} {a : Ar} (h : s.arcs[k]? = some a) (ha : arOk n a = false) : stOk n s = false := by
  simp only [stOk, all_not h ha, Bool.and_false]
theorem stOk_fin {n : Int} {s : St} (h : finOk s.fin = false) : stOk n s = false := by simp only [stOk, h, Bool.false_and]
theorem stOk_arcs {n : Int} {s : St} (h : s.arcs.all (arOk n) = false) : stOk n s = false := by simp only [stOk, h, Bool.and_false]
theorem stOk_yes {n : Int} {s : St} (h : finOk s.fin = true) (g : s.arcs.all (arOk n) = true) : stOk n s = true := by simp only [stOk, h, g, Bool.and_self]
theorem machE_size {st : Int} {sts : List St} (h : 60 < sts.length ∨ 400 < arcN sts) : machE ⟨st, sts⟩ = 1 := by unfold machE; rw [if_pos h]
theorem machE_start {st : Int} {sts : List St} {len : Nat} (hl : sts.length = len) (h1 : ¬ 60 < len) (h2 : ¬ 400 < arcN sts) (h3 : ¬ (-1 ≤ st ∧ st < len)) : machE ⟨st, sts⟩ = 2 := by
  subst hl
  unfold machE startOk
  rw [if_neg (by simp only; omega), if_neg (fun h => h3 h.1)]
theorem machE_state {st : Int} {sts : List St} {len k : Nat} {x : St} (hl : sts.length = len) (h1 : ¬ 60 < len) (h2 : ¬ 400 < arcN sts) (h3 : sts[k]? = some x) (h4 : stOk len x = false) : machE ⟨st, sts⟩ = 2 := by
  subst hl
  unfold machE
  rw [if_neg (by simp only; omega), if_neg (fun h => by have := h.2; simp only [all_not h3 h4] at this; exact absurd this (by simp))]
theorem machE_good {st : Int} {sts : List St} {len k : Nat} (hl : sts.length = len) (h1 : ¬ 60 < len) (h2 : ¬ 400 < arcN sts) (h3 : -1 ≤ st ∧ st < len) (hk : ¬ k < len) (h4 : (sts.take k).all (stOk len) = true) : machE ⟨st, sts⟩ = 0 := by
  subst hl
  rw [List.take_of_length_le (by omega)] at h4
  unfold machE startOk
  rw [if_neg (by simp only; omega), if_pos ⟨h3, h4⟩]
/-- A machine with which nothing is wrong. -/
theorem machE_zero {m : Mach} (h : machE m = 0) : m.states.length ≤ 60 ∧ arcN m.states ≤ 400 ∧ (-1 ≤ m.start ∧ m.start < m.states.length) ∧ ∀ s ∈ m.states, finOk s.fin = true ∧ ∀ a ∈ s.arcs, arOk m.states.length a = true := by
  unfold machE at h
  by_cases h1 : 60 < m.states.length ∨ 400 < arcN m.states
  · rw [if_pos h1] at h; exact absurd h (by decide)
  · rw [if_neg h1] at h
    by_cases h2 : startOk m ∧ m.states.all (stOk m.states.length) = true
    · refine ⟨by omega, by omega, h2.1, fun s hs => ?_⟩
      have h3 := List.all_eq_true.1 h2.2 s hs
      simp only [stOk, Bool.and_eq_true] at h3
      exact ⟨h3.1, fun a ha => List.all_eq_true.1 h3.2 a ha⟩
    · rw [if_neg h2] at h; exact absurd h (by decide)
theorem arcN_full {sts : List St} {len k : Nat} (hl : sts.length = len) (hk : ¬ k < len) : arcN (sts.take k) = arcN sts := by rw [List.take_of_length_le (by omega)]


abbrev arD (a : Ar) : List D := [.p (.int .i64 a.i), .p (.int .i64 a.o), .p (.int .i64 a.w), .p (.int .i64 a.t)]
abbrev arsD (l : List Ar) : D := .sl 4 32 (l.map arD)
abbrev stD (s : St) : List D := [.p (.int .i64 s.fin), arsD s.arcs]
abbrev stsD (l : List St) : D := .sl 2 32 (l.map stD)
abbrev mV (m : Mach) : V := .agg [.i m.start, .d (stsD m.states)]
abbrev intsD (l : List Int) : D := .sl 1 8 (l.map fun x => [D.p (.int .i64 x)])
abbrev boolsD (l : List Bool) : D := .sl 1 1 (l.map fun x => [D.p (.bool x)])
theorem DRep.bound {w : World} {q : Nat → Prop} {sz bt : Nat} {rows : List (List D)} {v : Value} (h : DRep w q (.sl sz bt rows) v) : rows.length * bt ≤ 140737488355328 := by
  cases h with | sl _ _ _ _ _ _ _ _ _ _ hl => exact hl
theorem DRep.row {w : World} {q : Nat → Prop} {sz bt : Nat} {rows : List (List D)} {v : Value} (h : DRep w q (.sl sz bt rows) v) {i j : Nat} {row : List D} {u : D} (hi : rows[i]? = some row) (hj : row[j]? = some u) : ∃ y, DRep w q u y := by
  cases h with | sl _ _ _ _ _ _ _ _ _ _ hl hc hr => exact ⟨_, hr i j row u hi hj⟩
/-- No machine in memory is larger than memory. -/
theorem Fn.mach {P : Program} {f : FuncId} {args : List V} {post : V → Prop} (m : Mach) (j : Nat) (hj : args[j]? = some (mV m)) (h : m.states.length ≤ 4398046511104 → (∀ x ∈ m.states, x.arcs.length ≤ 4398046511104) → Fn P f args post) : Fn P f args post := by
  intro w out g xs ho hx
  have hlt : j < xs.length := by rw [← hx.1]; exact (List.getElem?_eq_some_iff.1 hj).1
  have hv := hx.2 j _ _ hj (List.getElem?_eq_getElem hlt)
  generalize xs[j] = y at hv
  cases hv with
  | agg _ cs hl hh =>
    have hc : 1 < cs.length := by simp at hl; omega
    have h1 := hh 1 _ cs[1] rfl (List.getElem?_eq_getElem hc)
    cases h1 with
    | d _ _ h2 =>
      have h3 := h2.bound
      simp only [List.length_map] at h3
      refine h (by omega) (fun x hx => ?_) w out g xs ho hx
      obtain ⟨i, hi⟩ := List.getElem?_of_mem hx
      obtain ⟨z, h4⟩ := h2.row (i := i) (j := 1) (row := stD x) (by simp [hi]) rfl
      have h5 := h4.bound
      simp only [List.length_map] at h5
      omega
/-- No slice in memory is larger than memory. -/
theorem Fn.sl {P : Program} {f : FuncId} {args : List V} {post : V → Prop} (j : Nat) {sz bt : Nat} {rows : List (List D)} (hj : args[j]? = some (.d (.sl sz bt rows))) (h : rows.length * bt ≤ 140737488355328 → Fn P f args post) : Fn P f args post := by
  intro w out g xs ho hx
  have hlt : j < xs.length := by rw [← hx.1]; exact (List.getElem?_eq_some_iff.1 hj).1
  have hv := hx.2 j _ _ hj (List.getElem?_eq_getElem hlt)
  generalize xs[j] = y at hv
  cases hv with
  | d _ _ h2 => exact h h2.bound w out g xs ho hx
theorem get_lt {α : Type} {l : List α} {k n : Nat} (hl : l.length = n) (h : k < n) : ∃ x, l[k]? = some x := ⟨l[k], List.getElem?_eq_getElem (by omega)⟩
end Go.Proofs.Ythlcginebeapdaa
