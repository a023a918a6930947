/- How far it is from the start, and to an end: a machine's costs and edges. -/
import Derived.Test.YtjbldphpkkmdpaaAmFar
namespace Go.Proofs.Ytjbldphpkkmdpaa
open Go.RowKit
set_option linter.unusedSimpArgs false
set_option linter.unusedVariables false

def arcE (a : Ar) : Nat × Nat := (a.t.toNat, a.w.toNat)
def bl {α : Type} (g : Nat → α) (n : Nat) : List α := (List.range n).map g
theorem bl_len {α : Type} (g : Nat → α) (n : Nat) : (bl g n).length = n := by simp [bl]
theorem bl_get {α : Type} {g : Nat → α} {n q : Nat} (h : q < n) : (bl g n)[q]? = some (g q) := by simp [bl, List.getElem?_range h]
theorem bl_inv {α : Type} {g : Nat → α} {n q : Nat} {x : α} (h : (bl g n)[q]? = some x) : q < n ∧ x = g q := by
  have hq : q < n := by have := (List.getElem?_eq_some_iff.1 h).1; simpa [bl] using this
  rw [bl_get hq] at h
  exact ⟨hq, by simpa using h.symm⟩
theorem bl_set {α : Type} {g g' : Nat → α} {n p : Nat} {x : α} (h : p < n) (hx : g' p = x) (ho : ∀ q, q < n → q ≠ p → g q = g' q) : (bl g n).set p x = bl g' n := by
  refine List.ext_getElem? fun i => ?_
  rw [List.getElem?_set]
  by_cases e : p = i
  · subst e
    rw [if_pos rfl, if_pos (by rw [bl_len]; exact h), bl_get h, hx]
  · rw [if_neg e]
    by_cases hi : i < n
    · rw [bl_get hi, bl_get hi, ho i hi (Ne.symm e)]
    · rw [List.getElem?_eq_none (by rw [bl_len]; omega), List.getElem?_eq_none (by rw [bl_len]; omega)]
theorem bl_congr {α : Type} {g g' : Nat → α} {n : Nat} (h : ∀ q, q < n → g q = g' q) : bl g n = bl g' n := List.map_congr_left fun q hq => h q (List.mem_range.1 hq)
theorem bl_rep {α : Type} (n : Nat) (x : α) : List.replicate n x = bl (fun _ => x) n := by
  refine List.ext_getElem? fun i => ?_
  by_cases hi : i < n
  · rw [bl_get hi]; simp [List.getElem?_replicate, hi]
  · rw [List.getElem?_eq_none (by simp; omega), List.getElem?_eq_none (by rw [bl_len]; omega)]

def stA (sts : List St) (q : Nat) : List Ar := (sts.getD q ⟨0, []⟩).arcs
theorem stA_of {sts : List St} {q : Nat} {x : St} (h : sts[q]? = some x) : stA sts q = x.arcs := by simp [stA, List.getD_eq_getElem?_getD, h]
/-- From the start. -/
def frF (m : Mach) : List Nat := bl (fun q => if m.start = (q : Int) then 0 else 1000000001) m.states.length
def frE (m : Mach) : List (List (Nat × Nat)) := bl (fun q => (stA m.states q).map arcE) m.states.length
theorem fr_edge {m : Mach} (hz : ∀ s ∈ m.states, ∀ a ∈ s.arcs, 0 ≤ a.t ∧ 0 ≤ a.w) {q p w : Nat} : fEdge (frE m) q p w ↔ ∃ (x : St) (j : Nat) (a : Ar), m.states[q]? = some x ∧ x.arcs[j]? = some a ∧ a.t = (p : Int) ∧ a.w = (w : Int) := by
  constructor
  · rintro ⟨l, h1, h2⟩
    obtain ⟨hq, rfl⟩ := bl_inv h1
    have hx : m.states[q]? = some m.states[q] := List.getElem?_eq_getElem hq
    rw [stA_of hx, List.mem_map] at h2
    obtain ⟨a, ha, hae⟩ := h2
    obtain ⟨j, hj⟩ := List.getElem?_of_mem ha
    obtain ⟨h3, h4⟩ := hz _ (List.getElem_mem hq) a ha
    simp only [arcE, Prod.mk.injEq] at hae
    exact ⟨_, j, a, hx, hj, by omega, by omega⟩
  · rintro ⟨x, j, a, h1, h2, h3, h4⟩
    have hq : q < m.states.length := (List.getElem?_eq_some_iff.1 h1).1
    refine ⟨_, bl_get hq, ?_⟩
    rw [stA_of h1, List.mem_map]
    exact ⟨a, List.mem_of_getElem? h2, by simp [arcE, h3, h4]⟩
theorem fr_init {m : Mach} {q d : Nat} : fInit (frF m) q d ↔ q < m.states.length ∧ m.start = (q : Int) ∧ d = 0 := by
  constructor
  · rintro ⟨h1, h2⟩
    obtain ⟨hq, rfl⟩ := bl_inv h1
    by_cases e : m.start = (q : Int)
    · exact ⟨hq, e, by simp [e]⟩
    · simp [e] at h2
  · rintro ⟨h1, h2, rfl⟩
    exact ⟨by rw [frF, bl_get h1]; simp [h2], by omega⟩
/-- Towards an end: against the arcs. -/
def eTo (p q : Nat) (l : List Ar) : List (Nat × Nat) := (l.filter fun a => decide (a.t = (p : Int))).map fun a => (q, a.w.toNat)
def eInto (sts : List St) (p : Nat) : Nat → List (Nat × Nat)
  | 0 => []
  | k + 1 => eInto sts p k ++ eTo p k (stA sts k)
def enF (m : Mach) : List Nat := bl (fun q => (m.states.getD q ⟨0, []⟩).fin.toNat) m.states.length
def enE (m : Mach) : List (List (Nat × Nat)) := bl (fun p => eInto m.states p m.states.length) m.states.length
theorem eTo_snoc (p q : Nat) {l : List Ar} {i : Nat} {a : Ar} (h : l[i]? = some a) : eTo p q (l.take (i + 1)) = eTo p q (l.take i) ++ if a.t = (p : Int) then [(q, a.w.toNat)] else [] := by
  rw [take_snoc h]
  unfold eTo
  rw [List.filter_append, List.map_append]
  by_cases e : a.t = (p : Int) <;> simp [e]
theorem eTo_len (p q : Nat) (l : List Ar) : (eTo p q l).length ≤ l.length := by
  unfold eTo
  rw [List.length_map]
  exact List.length_filter_le _ _
theorem eInto_len {sts : List St} (h : ∀ x ∈ sts, x.arcs.length ≤ 400) (p : Nat) : ∀ k, (eInto sts p k).length ≤ 400 * k
  | 0 => by simp [eInto]
  | k + 1 => by
    have h1 := eInto_len h p k
    have h2 := eTo_len p k (stA sts k)
    have h3 : (stA sts k).length ≤ 400 := by
      cases hx : sts[k]? with
      | none => simp [stA, List.getD_eq_getElem?_getD, hx]
      | some x => rw [stA_of hx]; exact h x (List.mem_of_getElem? hx)
    simp only [eInto, List.length_append]
    omega
theorem eInto_mem {sts : List St} {p : Nat} {e : Nat × Nat} : ∀ k, e ∈ eInto sts p k ↔ ∃ q a, q < k ∧ a ∈ stA sts q ∧ a.t = (p : Int) ∧ e = (q, a.w.toNat)
  | 0 => by simp [eInto]
  | k + 1 => by
    simp only [eInto, List.mem_append, eInto_mem k, eTo, List.mem_map, List.mem_filter, decide_eq_true_eq]
    constructor
    · rintro (⟨q, a, h1, h2⟩ | ⟨a, ⟨h1, h2⟩, h3⟩)
      · exact ⟨q, a, by omega, h2⟩
      · exact ⟨k, a, by omega, h1, h2, h3.symm⟩
    · rintro ⟨q, a, h1, h2, h3, h4⟩
      by_cases e : q = k
      · subst e; exact .inr ⟨a, ⟨h2, h3⟩, h4.symm⟩
      · exact .inl ⟨q, a, by omega, h2, h3, h4⟩
theorem en_edge {m : Mach} (hz : ∀ s ∈ m.states, ∀ a ∈ s.arcs, 0 ≤ a.t ∧ a.t < m.states.length ∧ 0 ≤ a.w) {p q w : Nat} : fEdge (enE m) p q w ↔ ∃ (x : St) (j : Nat) (a : Ar), m.states[q]? = some x ∧ x.arcs[j]? = some a ∧ a.t = (p : Int) ∧ a.w = (w : Int) := by
  constructor
  · rintro ⟨l, h1, h2⟩
    obtain ⟨hp, rfl⟩ := bl_inv h1
    obtain ⟨q', a, h3, h4, h5, h6⟩ := (eInto_mem _).1 h2
    simp only [Prod.mk.injEq] at h6
    obtain ⟨rfl, h6⟩ := h6
    have hx : m.states[q]? = some m.states[q] := List.getElem?_eq_getElem h3
    rw [stA_of hx] at h4
    obtain ⟨j, hj⟩ := List.getElem?_of_mem h4
    obtain ⟨_, _, h7⟩ := hz _ (List.getElem_mem h3) a h4
    exact ⟨_, j, a, hx, hj, h5, by omega⟩
  · rintro ⟨x, j, a, h1, h2, h3, h4⟩
    have hq : q < m.states.length := (List.getElem?_eq_some_iff.1 h1).1
    have hp : p < m.states.length := by
      obtain ⟨_, h5, _⟩ := hz x (List.mem_of_getElem? h1) a (List.mem_of_getElem? h2)
      omega
    exact ⟨_, bl_get hp, (eInto_mem _).2 ⟨q, a, hq, by rw [stA_of h1]; exact List.mem_of_getElem? h2, h3, by simp [h4]⟩⟩
noncomputable def frD (m : Mach) : List Nat := dstL (fInit (frF m)) (fEdge (frE m)) m.states.length
noncomputable def enD (m : Mach) : List Nat := dstL (fInit (enF m)) (fEdge (enE m)) m.states.length
noncomputable def disE (D : List Nat) (m : Mach) : Int := if machE m ≠ 0 then machE m else if D.all okD then 0 else 4
noncomputable def disL (D : List Nat) (m : Mach) : List Nat := if disE D m = 0 then D.map tell else []
/-- An answer of costs. -/
def resI (e : Int) (L : List Nat) (v : V) : Prop := e ≠ 0 ∧ v = .tup [.nil, .i e] ∨ e = 0 ∧ v = .tup [.d (intsN L), .i 0]
theorem resI_wk {e : Int} {L : List Nat} (hL : e ≠ 0 → L = []) (v : V) (h : resI e L v) (_ : v.pure) : ∃ v', v' = .tup [.d (intsD (L.map fun x : Nat => (x : Int))), .i e] ∧ v'.pure ∧ WkR v' v := by
  refine ⟨_, rfl, by simp [V.pure, V.has, V.hasL], ?_⟩
  rcases h with ⟨h0, rfl⟩ | ⟨rfl, rfl⟩
  · rw [hL h0]
    exact WkR.nil1 1 8 _
  · have : intsD (L.map fun x : Nat => (x : Int)) = intsN L := by simp [encN, Function.comp_def]
    rw [this]
    exact .one (.refl _)
theorem dis_res {D : List Nat} {m : Mach} (h0 : machE m = 0) {v : V} (h : resD D v) : resI (disE D m) (disL D m) v := by
  have hE : disE D m = if D.all okD then 0 else 4 := by unfold disE; rw [if_neg (by simp [h0])]
  unfold disL
  rw [hE]
  rcases h with ⟨h1, h2⟩ | ⟨h1, h2⟩
  · rw [h1]; exact .inr ⟨rfl, h2⟩
  · rw [h1]; exact .inl ⟨by decide, h2⟩
theorem resI_ne {P : Program} {f : FuncId} {args : List V} {e : Int} {L : List Nat} (h : Fn P f args (resI e L)) (he : e ≠ 0) : Fn P f args (fun v => v = .tup [.nil, .i e]) := h.mono fun v hv => by
  rcases hv with ⟨_, hv⟩ | ⟨h0, _⟩
  · exact hv
  · exact absurd h0 he
theorem resI_eq {P : Program} {f : FuncId} {args : List V} {e : Int} {L : List Nat} (h : Fn P f args (resI e L)) (he : e = 0) : Fn P f args (fun v => v = .tup [.d (intsN L), .i 0]) := h.mono fun v hv => by
  rcases hv with ⟨h0, _⟩ | ⟨_, hv⟩
  · exact absurd he h0
  · exact hv
end Go.Proofs.Ytjbldphpkkmdpaa
