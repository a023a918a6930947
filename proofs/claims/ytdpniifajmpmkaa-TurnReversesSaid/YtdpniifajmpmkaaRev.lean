/- A machine from its ends to its start, as plain data. -/
import Derived.Test.YtdpniifajmpmkaaPull
namespace Go.Proofs.Ytdpniifajmpmkaa
open Go.RowKit
set_option linter.unusedSimpArgs false
set_option linter.unusedVariables false

def stAt (sts : List St) (q : Nat) : St := sts.getD q ⟨0, []⟩
theorem stAt_of {sts : List St} {q : Nat} {x : St} (h : sts[q]? = some x) : stAt sts q = x := by simp [stAt, List.getD_eq_getElem?_getD, h]
def rvA (q : Nat) (a : Ar) : Ar := ⟨a.i, a.o, a.w, (q : Int) + 1⟩
def arcsTo (p q : Nat) (l : List Ar) : List Ar := (l.filter fun a => decide (a.t = (p : Int))).map (rvA q)
def intoL (sts : List St) (p : Nat) : Nat → List Ar
  | 0 => []
  | k + 1 => intoL sts p k ++ arcsTo p k (stAt sts k).arcs
def firstL (sts : List St) : Nat → List Ar
  | 0 => []
  | k + 1 => firstL sts k ++ if (stAt sts k).fin = 1000000001 then [] else [⟨0, 0, (stAt sts k).fin, (k : Int) + 1⟩]
def revL (F : List Ar) (f : Nat → Int) (G : Nat → List Ar) (n : Nat) : List St := ⟨1000000001, F⟩ :: (List.range n).map fun p => ⟨f p, G p⟩
def revM (m : Mach) : Mach := ⟨0, revL (firstL m.states m.states.length) (fun p => if m.start = (p : Int) then 0 else 1000000001) (fun p => intoL m.states p m.states.length) m.states.length⟩
def revE (m : Mach) : Int := if machE m ≠ 0 then machE m else if 60 < (revM m).states.length ∨ 400 < arcN (revM m).states then 5 else 0
def revR (m : Mach) : Mach := if revE m = 0 then revM m else ⟨0, []⟩

theorem arcsTo_snoc (p q : Nat) {l : List Ar} {i : Nat} {a : Ar} (h : l[i]? = some a) : arcsTo p q (l.take (i + 1)) = arcsTo p q (l.take i) ++ if a.t = (p : Int) then [rvA q a] else [] := by
  rw [take_snoc h]
  unfold arcsTo
  rw [List.filter_append, List.map_append]
  by_cases e : a.t = (p : Int) <;> simp [e]
theorem arcsTo_len (p q : Nat) (l : List Ar) : (arcsTo p q l).length ≤ l.length := by
  unfold arcsTo
  rw [List.length_map]
  exact List.length_filter_le _ _
theorem intoL_len {sts : List St} (h : ∀ x ∈ sts, x.arcs.length ≤ 400) (p : Nat) : ∀ k, (intoL sts p k).length ≤ 400 * k
  | 0 => by simp [intoL]
  | k + 1 => by
    have h1 := intoL_len h p k
    have h2 := arcsTo_len p k (stAt sts k).arcs
    have h3 : (stAt sts k).arcs.length ≤ 400 := by
      cases hx : sts[k]? with
      | none => simp [stAt, List.getD_eq_getElem?_getD, hx]
      | some x => rw [stAt_of hx]; exact h x (List.mem_of_getElem? hx)
    simp only [intoL, List.length_append]
    omega
theorem firstL_len (sts : List St) : ∀ k, (firstL sts k).length ≤ k
  | 0 => by simp [firstL]
  | k + 1 => by
    have h1 := firstL_len sts k
    simp only [firstL, List.length_append]
    split <;> simp <;> omega
theorem intoL_mem {sts : List St} {p : Nat} {a : Ar} : ∀ k, a ∈ intoL sts p k → ∃ q b, q < k ∧ b ∈ (stAt sts q).arcs ∧ a = rvA q b
  | 0, h => by simp [intoL] at h
  | k + 1, h => by
    simp only [intoL, List.mem_append] at h
    rcases h with h | h
    · obtain ⟨q, b, h1, h2, h3⟩ := intoL_mem k h
      exact ⟨q, b, by omega, h2, h3⟩
    · unfold arcsTo at h
      simp only [List.mem_map, List.mem_filter] at h
      obtain ⟨b, ⟨h1, _⟩, h2⟩ := h
      exact ⟨k, b, by omega, h1, h2.symm⟩
theorem firstL_mem {sts : List St} {a : Ar} : ∀ k, a ∈ firstL sts k → ∃ q, q < k ∧ (stAt sts q).fin ≠ 1000000001 ∧ a = ⟨0, 0, (stAt sts q).fin, (q : Int) + 1⟩
  | 0, h => by simp [firstL] at h
  | k + 1, h => by
    simp only [firstL, List.mem_append] at h
    rcases h with h | h
    · obtain ⟨q, h1, h2⟩ := firstL_mem k h
      exact ⟨q, by omega, h2⟩
    · split at h
      · cases h
      · rename_i hn
        exact ⟨k, by omega, hn, by simpa using h⟩
theorem revL_len (F : List Ar) (f : Nat → Int) (G : Nat → List Ar) (n : Nat) : (revL F f G n).length = n + 1 := by simp [revL]
theorem revL_get {F : List Ar} {f : Nat → Int} {G : Nat → List Ar} {n p : Nat} (h : p < n) : (revL F f G n)[p + 1]? = some ⟨f p, G p⟩ := by simp [revL, List.getElem?_range h]
theorem revL_set {F : List Ar} {f f' : Nat → Int} {G G' : Nat → List Ar} {n p : Nat} (h : p < n) (x : St) (hx : x = ⟨f' p, G' p⟩) (ho : ∀ q, q < n → q ≠ p → f q = f' q ∧ G q = G' q) : (revL F f G n).set (p + 1) x = revL F f' G' n := by
  unfold revL
  rw [List.set_cons_succ]
  congr 1
  refine List.ext_getElem? fun i => ?_
  rw [List.getElem?_set]
  by_cases e : p = i
  · subst e
    simp [h, hx, List.getElem?_range h]
  · rw [if_neg e]
    by_cases hi : i < n
    · obtain ⟨h1, h2⟩ := ho i hi (Ne.symm e)
      simp [List.getElem?_range hi, h1, h2]
    · rw [List.getElem?_eq_none (by simp; omega), List.getElem?_eq_none (by simp; omega)]
theorem revL_congr {F : List Ar} {f f' : Nat → Int} {G G' : Nat → List Ar} {n : Nat} (h : ∀ q, q < n → f q = f' q ∧ G q = G' q) : revL F f G n = revL F f' G' n := by
  unfold revL
  congr 1
  refine List.map_congr_left fun p hp => ?_
  obtain ⟨h1, h2⟩ := h p (List.mem_range.1 hp)
  rw [h1, h2]
theorem revL_rep (n : Nat) : List.replicate (n + 1) (⟨1000000001, []⟩ : St) = revL [] (fun _ => 1000000001) (fun _ => []) n := by
  unfold revL
  rw [List.replicate_succ]
  congr 1
  refine List.ext_getElem? fun i => ?_
  by_cases hi : i < n
  · simp [List.getElem?_replicate, hi, List.getElem?_range hi]
  · rw [List.getElem?_eq_none (by simp; omega), List.getElem?_eq_none (by simp; omega)]
theorem rev_ok {m : Mach} (h : machE m = 0) : startOk (revM m) ∧ (revM m).states.all (stOk (revM m).states.length) = true := by
  obtain ⟨_, _, hst, hz⟩ := machE_zero h
  have hAt : ∀ q, q < m.states.length → stAt m.states q ∈ m.states := fun q hq => by
    have : m.states[q]? = some m.states[q] := List.getElem?_eq_getElem hq
    rw [stAt_of this]; exact List.getElem_mem _
  refine ⟨by unfold startOk revM; simp [revL_len], ?_⟩
  have hl : (revM m).states.length = m.states.length + 1 := by simp [revM, revL_len]
  rw [hl, List.all_eq_true]
  intro s hs
  simp only [revM, revL, List.mem_cons, List.mem_map, List.mem_range] at hs
  rcases hs with rfl | ⟨p, hp, rfl⟩
  · simp only [stOk, Bool.and_eq_true, List.all_eq_true]
    refine ⟨by decide, fun a ha => ?_⟩
    obtain ⟨q, hq, hf, rfl⟩ := firstL_mem _ ha
    have := (hz _ (hAt q hq)).1
    simp [finOk] at this
    refine arOk_yes ⟨by simp, by simp, ⟨by simp; omega, by simp; omega⟩, by simp; omega, by simp; omega⟩
  · simp only [stOk, Bool.and_eq_true, List.all_eq_true]
    refine ⟨by split <;> decide, fun a ha => ?_⟩
    obtain ⟨q, b, hq, hb, rfl⟩ := intoL_mem _ ha
    have := (hz _ (hAt q hq)).2 b hb
    simp only [arOk, decide_eq_true_eq] at this
    refine arOk_yes ⟨by simp [rvA]; omega, by simp [rvA]; omega, by simp [rvA]; omega, by simp [rvA]; omega, by simp [rvA]; omega⟩
/-- Only its size may be wrong. -/
theorem rev_machE {m : Mach} (h : machE m = 0) : machE (revM m) = if 60 < (revM m).states.length ∨ 400 < arcN (revM m).states then 1 else 0 := by
  have := rev_ok h
  unfold machE
  split
  · rfl
  · first | rw [if_pos this] | rfl
theorem revL_snoc (F : List Ar) (f : Nat → Int) (G : Nat → List Ar) (j : Nat) : revL F f G (j + 1) = revL F f G j ++ [⟨f j, G j⟩] := by
  unfold revL
  rw [List.range_succ, List.map_append]
  rfl
theorem firstL_succ {sts : List St} {k : Nat} {x : St} (h : sts[k]? = some x) : firstL sts (k + 1) = firstL sts k ++ if x.fin = 1000000001 then [] else [⟨0, 0, x.fin, (k : Int) + 1⟩] := by rw [firstL, stAt_of h]
theorem arcN_le {l : List St} {c : Nat} (h : ∀ x ∈ l, x.arcs.length ≤ c) : arcN l ≤ l.length * c := by
  induction l with
  | nil => simp [arcN]
  | cons y l ih =>
    have h1 := ih fun x hx => h x (by simp [hx])
    have h2 := h y (by simp)
    simp only [arcN, List.map_cons, List.sum_cons, List.length_cons] at h1 ⊢
    rw [Nat.succ_mul]
    omega
theorem rev_arcN {m : Mach} (h : machE m = 0) : (revM m).states.length ≤ 61 ∧ arcN (revM m).states ≤ 1000000000 := by
  obtain ⟨h60, h400, _, _⟩ := machE_zero h
  have hal4 : ∀ x ∈ m.states, x.arcs.length ≤ 400 := fun x hx => Nat.le_trans (arcN_mem m.states x hx) h400
  have hl : (revM m).states.length = m.states.length + 1 := by simp [revM, revL_len]
  refine ⟨by omega, ?_⟩
  have := arcN_le (l := (revM m).states) (c := 400 * 60) fun x hx => by
    simp only [revM, revL, List.mem_cons, List.mem_map, List.mem_range] at hx
    rcases hx with rfl | ⟨p, hp, rfl⟩
    · have := firstL_len m.states m.states.length
      simp only
      omega
    · have := intoL_len hal4 p m.states.length
      simp only
      omega
  rw [hl] at this
  have h3 : (m.states.length + 1) * (400 * 60) ≤ 61 * (400 * 60) := Nat.mul_le_mul_right _ (by omega)
  omega
end Go.Proofs.Ytdpniifajmpmkaa
