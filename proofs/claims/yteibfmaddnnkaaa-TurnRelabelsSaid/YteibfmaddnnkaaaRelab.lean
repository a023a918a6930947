/- Labels changed by tables, as plain data. -/
import Derived.Test.YteibfmaddnnkaaaReach
import Derived.Test.YteibfmaddnnkaaaAmK
namespace Go.Proofs.Yteibfmaddnnkaaa
open Go.RowKit
set_option linter.unusedSimpArgs false
set_option linter.unusedVariables false

structure Chg where
  a : Int
  b : Int
abbrev chD (c : Chg) : List D := [.p (.int .i64 c.a), .p (.int .i64 c.b)]
abbrev chsD (l : List Chg) : D := .sl 2 16 (l.map chD)
theorem mpsR_chs (l : List Chg) : D.mpsR (l.map chD) = false := mpsR_map _ (fun _ => rfl) l
def prs (l : List Chg) : List (Int × Int) := l.map fun c => (c.a, c.b)
def chOk (c : Chg) : Bool := decide ((1 ≤ c.a ∧ c.a ≤ 1000) ∧ 0 ≤ c.b ∧ c.b ≤ 1000)
def chE (l : List Chg) : Int := if 50 < l.length then 1 else if l.all chOk = true then (if (l.map Chg.a).Nodup then 0 else 10) else 2
def chg (l : List Chg) (x : Int) : Int := (mget (prs l) x).getD x
def relA (i o : List Chg) (y : Ar) : Ar := ⟨chg i y.i, chg o y.o, y.w, y.t⟩
def relS (i o : List Chg) (s : St) : St := ⟨s.fin, s.arcs.map (relA i o)⟩
def relE (m : Mach) (i o : List Chg) : Int := if machE m ≠ 0 then machE m else if chE i ≠ 0 then chE i else chE o
def relM (m : Mach) (i o : List Chg) : Mach := ⟨m.start, m.states.map (relS i o)⟩
def relR (m : Mach) (i o : List Chg) : Mach := if relE m i o = 0 then relM m i o else ⟨0, []⟩

theorem nodup_snoc {l : List Int} {x : Int} (h : l.Nodup) : (l ++ [x]).Nodup ↔ x ∉ l := by
  rw [List.nodup_append]
  constructor
  · intro ⟨_, _, h3⟩ hx
    exact h3 x hx x (by simp) rfl
  · intro hx
    exact ⟨h, by simp, fun a ha b hb => by simp only [List.mem_singleton] at hb; subst hb; rintro rfl; exact hx ha⟩
theorem mget_prs_none {l : List Chg} {x : Int} : mget (prs l) x = none ↔ x ∉ l.map Chg.a := by
  rw [mget_none]
  constructor
  · intro h hx
    obtain ⟨c, hc, rfl⟩ := List.mem_map.1 hx
    exact h (c.a, c.b) (List.mem_map.2 ⟨c, hc, rfl⟩) rfl
  · intro h y hy
    obtain ⟨c, hc, rfl⟩ := List.mem_map.1 hy
    rintro rfl
    exact h (List.mem_map.2 ⟨c, hc, rfl⟩)
theorem not_nodup_snoc {l : List Int} {x : Int} (h : ¬ l.Nodup) : ¬ (l ++ [x]).Nodup := fun h2 => h (List.nodup_append.1 h2).1
theorem not_nodup_take {l : List Int} {k : Nat} (h : ¬ (l.take k).Nodup) : ¬ l.Nodup := fun h2 => h (List.Sublist.nodup (List.take_sublist k l) h2)
/-- Two alike. -/
theorem dup_at {l : List Int} {i j : Nat} {x : Int} (hi : l[i]? = some x) (hj : l[j]? = some x) (h : j < i) : ¬ l.Nodup := by
  intro hn
  have := List.pairwise_iff_getElem.1 hn j i (List.getElem?_eq_some_iff.1 hj).1 (List.getElem?_eq_some_iff.1 hi).1 h
  rw [(List.getElem?_eq_some_iff.1 hj).2, (List.getElem?_eq_some_iff.1 hi).2] at this
  exact this rfl
theorem prs_snoc (l : List Chg) (c : Chg) : prs (l ++ [c]) = prs l ++ [(c.a, c.b)] := by simp [prs]
theorem chg_hit {l : List Chg} {k : Nat} {c : Chg} {x : Int} (hk : l[k]? = some c) (hx : c.a = x) (hn : x ∉ (l.take k).map Chg.a) : chg l x = c.b := by
  have key : ∀ (l : List Chg) (k : Nat), l[k]? = some c → x ∉ (l.take k).map Chg.a → mget (prs l) x = some c.b := by
    intro l
    induction l with
    | nil => intro k h; simp at h
    | cons y l ih =>
      intro k h hn
      have e : prs (y :: l) = (y.a, y.b) :: prs l := rfl
      rw [e, mget_cons]
      cases k with
      | zero => simp at h; subst h; rw [if_pos hx.symm]
      | succ k =>
        simp only [List.take_succ_cons, List.map_cons, List.mem_cons, not_or] at hn
        rw [if_neg hn.1]
        exact ih k (by simpa using h) hn.2
  unfold chg
  rw [key l k hk hn]
  rfl
theorem chg_miss {l : List Chg} {x : Int} (hn : x ∉ l.map Chg.a) : chg l x = x := by
  unfold chg
  rw [mget_prs_none.2 hn]
  rfl
theorem chE_size {l : List Chg} (h : 50 < l.length) : chE l = 1 := if_pos h
theorem chE_range {l : List Chg} {k : Nat} {c : Chg} (h : ¬ 50 < l.length) (hc : l[k]? = some c) (hb : chOk c = false) : chE l = 2 := by
  unfold chE
  rw [if_neg h, if_neg (by rw [all_not hc hb]; simp)]
theorem chE_zero {l : List Chg} (h : chE l = 0) : ¬ 50 < l.length ∧ l.all chOk = true ∧ (l.map Chg.a).Nodup := by
  unfold chE at h
  split at h
  · exact absurd h (by decide)
  · split at h
    · split at h
      · exact ⟨by assumption, by assumption, by assumption⟩
      · exact absurd h (by decide)
    · exact absurd h (by decide)
end Go.Proofs.Yteibfmaddnnkaaa
