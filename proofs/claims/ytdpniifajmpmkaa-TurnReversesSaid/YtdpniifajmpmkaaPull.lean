/- Pull, as plain data. -/
import Derived.Test.YtdpniifajmpmkaaTrim
namespace Go.Proofs.Ytdpniifajmpmkaa
open Go.RowKit
set_option linter.unusedSimpArgs false
set_option linter.unusedVariables false

def pOk (t : Int) (s : St) : Bool := decide (s.fin = 1000000001 ∨ s.fin + t ≤ 1000000000)
def pSt (t : Int) (s : St) : St := if s.fin = 1000000001 then s else ⟨s.fin + t, s.arcs⟩
noncomputable def pullE (m : Mach) (t : Int) : Int := if machE m ≠ 0 then machE m else if ¬ (0 ≤ t ∧ t ≤ 1000000000) then 2 else if (trimM m).states.all (pOk t) then 0 else 4
noncomputable def pullM (m : Mach) (t : Int) : Mach := if pullE m t = 0 then ⟨(trimM m).start, (trimM m).states.map (pSt t)⟩ else ⟨0, []⟩
theorem trim_fin {m : Mach} (h : machE m = 0) : ∀ s ∈ (trimM m).states, 0 ≤ s.fin ∧ s.fin ≤ 1000000001 := by
  intro s hs
  obtain ⟨_, _, _, hz⟩ := machE_zero h
  unfold trimM at hs
  rw [if_pos h] at hs
  simp only [List.mem_map] at hs
  obtain ⟨q, hq, rfl⟩ := hs
  have hqn : q < m.states.length := by
    unfold tKept at hq
    exact List.mem_range.1 (List.mem_filter.1 hq).1
  have h1 : m.states.getD q ⟨0, []⟩ = m.states[q] := by simp [List.getD_eq_getElem?_getD, List.getElem?_eq_getElem hqn]
  have h2 := (hz m.states[q] (List.getElem_mem _)).1
  rw [h1]
  simp only [tState]
  simpa [finOk] using h2
theorem trim_len {m : Mach} (h : machE m = 0) : (trimM m).states.length ≤ 60 := by
  obtain ⟨h1, _⟩ := machE_zero h
  unfold trimM
  rw [if_pos h]
  simp only [List.length_map]
  have := filter_range_len (tKeep m) m.states.length
  unfold tKept
  omega
theorem trim_arcs {m : Mach} (h : machE m = 0) : ∀ s ∈ (trimM m).states, s.arcs.length ≤ 400 := by
  intro s hs
  obtain ⟨_, h4, _, _⟩ := machE_zero h
  unfold trimM at hs
  rw [if_pos h] at hs
  simp only [List.mem_map] at hs
  obtain ⟨q, hq, rfl⟩ := hs
  have hqn : q < m.states.length := by
    unfold tKept at hq
    exact List.mem_range.1 (List.mem_filter.1 hq).1
  have h1 : m.states.getD q ⟨0, []⟩ = m.states[q] := by simp [List.getD_eq_getElem?_getD, List.getElem?_eq_getElem hqn]
  rw [h1]
  simp only [tState]
  have := List.length_filterMap_le (tArc (tKept m)) m.states[q].arcs
  have := arcN_mem m.states m.states[q] (List.getElem_mem _)
  omega
theorem all_of_done {α : Type} {xs : List α} {k : Nat} {p : α → Bool} (h : ∀ j x, j < k → xs[j]? = some x → p x = true) (hk : xs.length ≤ k) : xs.all p = true := by
  rw [List.all_eq_true]
  intro x hx
  obtain ⟨j, hj⟩ := List.getElem?_of_mem hx
  exact h j x (by have := (List.getElem?_eq_some_iff.1 hj).1; omega) hj
/-- The first k changed, the others as they were. -/
def part {α : Type} (f : α → α) (k : Nat) (l : List α) : List α := (l.take k).map f ++ l.drop k
theorem part_len {α : Type} (f : α → α) (k : Nat) (l : List α) : (part f k l).length = l.length := by simp [part]; omega
theorem part_get {α : Type} {f : α → α} {k : Nat} {l : List α} {x : α} (h : l[k]? = some x) : (part f k l)[k]? = some x := by
  have hk := (List.getElem?_eq_some_iff.1 h).1
  unfold part
  rw [List.getElem?_append_right (by simp; omega)]
  simp only [List.length_map, List.length_take, Nat.min_eq_left (Nat.le_of_lt hk), Nat.sub_self]
  simpa using h
theorem part_set {α : Type} {f : α → α} {k : Nat} {l : List α} {x : α} (h : l[k]? = some x) : (part f k l).set k (f x) = part f (k + 1) l := by
  have hk := (List.getElem?_eq_some_iff.1 h).1
  unfold part
  rw [List.set_append_right _ _ (by simp; omega)]
  simp only [List.length_map, List.length_take, Nat.min_eq_left (Nat.le_of_lt hk), Nat.sub_self]
  have hd : l.drop k = x :: l.drop (k + 1) := by
    rw [List.drop_eq_getElem_cons hk]
    congr 1
    exact (List.getElem?_eq_some_iff.1 h).2
  rw [hd, List.set_cons_zero, List.take_add_one, h]
  simp
theorem part_skip {α : Type} {f : α → α} {k : Nat} {l : List α} {x : α} (h : l[k]? = some x) (hx : f x = x) : part f k l = part f (k + 1) l := by
  rw [← part_set h, hx]
  refine List.ext_getElem? fun i => ?_
  rw [List.getElem?_set]
  split
  · rename_i e
    subst e
    have := part_get (f := f) h
    rw [if_pos (List.getElem?_eq_some_iff.1 this).1, this]
  · rfl
theorem part_zero {α : Type} (f : α → α) (l : List α) : part f 0 l = l := by simp [part]
theorem part_full {α : Type} (f : α → α) {l : List α} {k : Nat} (hk : l.length ≤ k) : part f k l = l.map f := by simp [part, List.take_of_length_le hk, List.drop_of_length_le hk]
theorem all_false {α : Type} {xs : List α} {k : Nat} {x : α} {p : α → Bool} (hx : xs[k]? = some x) (hp : p x = false) : xs.all p = false := all_not hx hp
end Go.Proofs.Ytdpniifajmpmkaa
