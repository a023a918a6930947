/- Words for the calls of package rational. -/
import Derived.Test.YtnnmdcagbcdfpaaRatAdd
import Derived.Test.YtnnmdcagbcdfpaaRatHop
namespace Go.Proofs.Ytnnmdcagbcdfpaa
open Go.RowKit
set_option linter.unusedSimpArgs false
set_option linter.unusedVariables false

/-- A slice of one state. -/
theorem Bld.one {W : World} {base n : Nat} (f : Int) (av : Value) (l : List Ar) (hn : W.heap.size = n) (hb : base ≤ n) (hav : W.ownsRow base 59 4 av l.length (l.flatMap arCells)) (hl : l.length * 32 ≤ 140737488355328) :
    Bld (W.alloc (.cells #[.int .i64 f, av] 55)) base (.slice (some ⟨n, 0, none⟩) 1 1) [(f, av, l)] := by
  refine ⟨owns_new stCells_len W base n _ [(f, av, l)] _ rfl (by omega) hn (by simp), ?_, ?_, ?_, by simp⟩
  · intro x hx
    simp only [List.mem_singleton] at hx
    subst hx
    exact hav.alloc _
  · intro x hx
    simp only [List.mem_singleton] at hx
    subst hx
    exact hl
  · intro x hx k hk
    simp only [List.mem_singleton] at hx
    subst hx
    have := (hav.lt k hk).2
    simp only [Value.ownBlock, ne_eq, Option.some.injEq]
    omega
theorem looseL_tail (h : St) (t : List St) (to : Int) : looseL (h :: t) 1 t.length to = h :: t.map (looseSt to) := by
  unfold looseL
  rw [List.mapIdx_cons]
  congr 1
  apply List.ext_getElem?
  intro i
  simp only [List.getElem?_mapIdx, List.getElem?_map]
  cases h2 : t[i]? with
  | none => rfl
  | some s =>
    have := (List.getElem?_eq_some_iff.1 h2).1
    simp only [Option.map_some, Option.some.injEq]
    rw [if_pos (by omega)]
theorem looseL_head (a b : List St) (to : Int) : looseL (a ++ b) 0 a.length to = a.map (looseSt to) ++ b := by
  unfold looseL
  apply List.ext_getElem?
  intro i
  simp only [List.getElem?_mapIdx]
  by_cases hi : i < a.length
  · rw [List.getElem?_append_left hi, List.getElem?_append_left (by simpa using hi), List.getElem?_map, List.getElem?_eq_getElem hi]
    simp only [Option.map_some, Option.some.injEq]
    rw [if_pos (by omega)]
  · rw [List.getElem?_append_right (by omega), List.getElem?_append_right (by simp; omega)]
    simp only [List.length_map]
    cases h2 : b[i - a.length]? with
    | none => rfl
    | some s =>
      simp only [Option.map_some, Option.some.injEq]
      rw [if_neg (by omega)]
/-- What a good machine gives the builder. -/
theorem good_arcs {m : Mach} (h : machE m = 0) : m.states.length ≤ 60 ∧ arcN m.states ≤ 400 ∧ (∀ s ∈ m.states, ∀ a ∈ s.arcs, 0 ≤ a.t ∧ a.t ≤ 60) ∧ (∀ s ∈ m.states, s.arcs.length ≤ 400) ∧ -1 ≤ m.start ∧ m.start < m.states.length := by
  obtain ⟨h1, h2, h3, h4⟩ := machE_zero h
  refine ⟨h1, h2, fun s hs a ha => ?_, fun s hs => ?_, h3⟩
  · have := arOk_iff.1 ((h4 s hs).2 a ha)
    omega
  · obtain ⟨i, hi, rfl⟩ := List.mem_iff_getElem.1 hs
    exact arcs_le h2 (List.getElem?_eq_getElem hi)
theorem rational_built_as (X : Nat) (s : Int) (sv : Value) (l : List St) (bm : Mach) (be : Int) (w : World) (hX : Blk w X #[.int .i64 s, sv] 70) (hB : BldM w (X + 1) sv l) (hl : l.length ≤ 2000) (h1 : builtM ⟨s, l⟩ = bm) (h2 : builtE ⟨s, l⟩ = be) :
    Calls Try.prog 62 #[.pointer (some ⟨X, 0, none⟩)] w fun e w' => ∃ mv, e = .returned (.tuple #[mv, .int .i64 be]) ∧ MachNew w' (X + 1) mv bm ∧ Below w.heap.size w w' := by
  subst h1 h2
  exact rational_built X s sv l w hX hB hl
def starOut (a : Mach) : Mach := if machE a = 0 then fitsM (starredM a) else ⟨0, []⟩
def starE (a : Mach) : Int := if machE a = 0 then fitsE (starredM a) else machE a
def twoE (a b : Mach) : Int := if machE a = 0 then machE b else machE a
def concatOut (a b : Mach) : Mach := if twoE a b = 0 then fitsM (chainedM a b) else ⟨0, []⟩
def concatE (a b : Mach) : Int := if twoE a b = 0 then fitsE (chainedM a b) else twoE a b
def unionOut (a b : Mach) : Mach := if twoE a b = 0 then fitsM (unitedM a b) else ⟨0, []⟩
def unionE (a b : Mach) : Int := if twoE a b = 0 then fitsE (unitedM a b) else twoE a b
theorem twoE_zero {a b : Mach} (h : twoE a b = 0) : machE a = 0 ∧ machE b = 0 := by
  unfold twoE at h
  by_cases ha : machE a = 0
  · rw [if_pos ha] at h; exact ⟨ha, h⟩
  · rw [if_neg ha] at h; exact absurd h ha
end Go.Proofs.Ytnnmdcagbcdfpaa
