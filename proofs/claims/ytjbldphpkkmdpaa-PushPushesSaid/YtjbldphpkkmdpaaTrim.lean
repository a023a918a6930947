/- A machine without what leads nowhere. -/
import Derived.Test.YtjbldphpkkmdpaaReach
namespace Go.Proofs.Ytjbldphpkkmdpaa
open Go.RowKit
set_option linter.unusedSimpArgs false
set_option linter.unusedVariables false

/-- The place of a number in a list; -1: none. -/
def pl : List Nat → Int → Int
  | [], _ => -1
  | y :: l, x => if (y : Int) = x then 0 else if pl l x < 0 then -1 else pl l x + 1
theorem pl_none : ∀ (l : List Nat) (x : Int), (∀ y ∈ l, (y : Int) ≠ x) → pl l x = -1
  | [], x, h => rfl
  | y :: l, x, h => by
    rw [pl, if_neg (h y (by simp)), pl_none l x fun z hz => h z (by simp [hz])]
    rfl
theorem pl_some : ∀ (l : List Nat) (x : Int) (i : Nat) (y : Nat), l[i]? = some y → (y : Int) = x → (∀ j z, j < i → l[j]? = some z → (z : Int) ≠ x) → pl l x = i
  | [], x, i, y, h, _, _ => by simp at h
  | z :: l, x, 0, y, h, e, _ => by simp at h; subst h; rw [pl, if_pos e]; rfl
  | z :: l, x, i + 1, y, h, e, hn => by
    have h1 := pl_some l x i y (by simpa using h) e fun j u hj hu => hn (j + 1) u (by omega) (by simpa using hu)
    rw [pl, if_neg (hn 0 z (by omega) (by simp)), h1, if_neg (by omega)]
    omega
theorem pl_le (l : List Nat) (x : Int) : -1 ≤ pl l x ∧ pl l x < l.length := by
  induction l with
  | nil => simp [pl]
  | cons y l ih =>
    rw [pl]
    simp only [List.length_cons]
    split
    · omega
    · split <;> omega
/-- In a list that grows: by how many are kept below. -/
theorem pl_filter {K : Nat → Bool} {n q : Nat} (hq : q < n) : pl ((List.range n).filter K) q = if K q then (((List.range q).filter K).length : Int) else -1 := by
  split
  · rename_i h
    obtain ⟨m, rfl⟩ : ∃ m, n = q + (m + 1) := ⟨n - q - 1, by omega⟩
    have e : (List.range (q + (m + 1))).filter K = (List.range q).filter K ++ q :: ((List.range m).map (q + 1 + ·)).filter K := by
      rw [List.range_add, List.filter_append, List.range_succ_eq_map]
      simp only [List.map_cons, List.map_map, Nat.add_zero, List.filter_cons, h, if_true]
      congr 2
      congr 1
      congr 1
      funext i
      simp
      omega
    refine pl_some _ _ _ q ?_ rfl fun j z hj hz => ?_
    · rw [e, List.getElem?_append_right (Nat.le_refl _)]; simp
    · rw [e, List.getElem?_append_left hj] at hz
      have := List.mem_filter.1 (List.mem_of_getElem? hz)
      have := List.mem_range.1 this.1
      omega
  · rename_i h
    refine pl_none _ _ fun y hy => ?_
    have := (List.mem_filter.1 hy).2
    intro e
    have : y = q := by omega
    subst this
    contradiction
theorem pl_neg (l : List Nat) {x : Int} (hx : x < 0) : pl l x = -1 := pl_none l x fun y _ => by omega

noncomputable def tKeep (m : Mach) (q : Nat) : Bool := (aheadL m).getD q false && (backL m).getD q false
noncomputable def tKept (m : Mach) : List Nat := (List.range m.states.length).filter (tKeep m)
def tArc (kept : List Nat) (a : Ar) : Option Ar := if 0 ≤ pl kept a.t then some ⟨a.i, a.o, a.w, pl kept a.t⟩ else none
def tState (kept : List Nat) (s : St) : St := ⟨s.fin, s.arcs.filterMap (tArc kept)⟩
noncomputable def trimM (m : Mach) : Mach := if machE m = 0 then ⟨pl (tKept m) m.start, (tKept m).map fun q => tState (tKept m) (m.states.getD q ⟨0, []⟩)⟩ else ⟨0, []⟩
theorem filterMap_snoc {α β : Type} {l : List α} {k : Nat} {x : α} (f : α → Option β) (h : l[k]? = some x) : (l.take (k + 1)).filterMap f = (l.take k).filterMap f ++ (f x).toList := by
  rw [List.take_add_one, h]
  simp only [List.filterMap_append, List.filterMap_cons, List.filterMap_nil, Option.toList]
  cases f x <;> rfl
theorem filter_range_succ (K : Nat → Bool) (k : Nat) : (List.range (k + 1)).filter K = (List.range k).filter K ++ if K k then [k] else [] := by
  rw [List.range_succ, List.filter_append]
  cases h : K k <;> simp [h]
theorem filter_range_len (K : Nat → Bool) (k : Nat) : ((List.range k).filter K).length ≤ k := by
  have := List.length_filter_le K (List.range k)
  simpa using this
end Go.Proofs.Ytjbldphpkkmdpaa
