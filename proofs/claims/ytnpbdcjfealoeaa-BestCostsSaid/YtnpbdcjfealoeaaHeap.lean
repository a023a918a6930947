/- Heaps, plainly: a list in which nothing stands below what is less; how it is mended upward and downward. -/
import Derived.Test.YtnpbdcjfealoeaaBase
namespace Go.Proofs.Ytnpbdcjfealoeaa
set_option linter.unusedSimpArgs false
set_option linter.unusedVariables false

section
variable {α : Type}
/-- Two elements change places. -/
def swp (l : List α) (i j : Nat) (x y : α) : List α := (l.set i y).set j x
theorem swp_len (l : List α) (i j : Nat) (x y : α) : (swp l i j x y).length = l.length := by simp [swp]
theorem swp_get {l : List α} {i j : Nat} {x y : α} (hi : l[i]? = some x) (hj : l[j]? = some y) (k : Nat) : (swp l i j x y)[k]? = if k = j then some x else if k = i then some y else l[k]? := by
  have h1 := (List.getElem?_eq_some_iff.1 hi).1
  have h2 := (List.getElem?_eq_some_iff.1 hj).1
  unfold swp
  rw [List.getElem?_set, List.getElem?_set]
  by_cases e : k = j
  · subst e; simp [h2]
  · rw [if_neg (Ne.symm e), if_neg e]
    by_cases e2 : k = i
    · subst e2; simp [h1]
    · rw [if_neg (Ne.symm e2), if_neg e2]
theorem swp_lt {l : List α} {i j : Nat} {x y : α} (hi : l[i]? = some x) (hj : l[j]? = some y) (h : i < j) : (swp l i j x y).Perm l := by
  have h2 := (List.getElem?_eq_some_iff.1 hj).1
  have e1 : l = l.take i ++ x :: ((l.drop (i + 1)).take (j - i - 1) ++ y :: l.drop (j + 1)) := by
    have a1 : l = l.take i ++ l.drop i := (List.take_append_drop i l).symm
    have a2 : l.drop i = x :: l.drop (i + 1) := by
      rw [List.drop_eq_getElem_cons (by omega)]
      rw [List.getElem?_eq_getElem (by omega), Option.some.injEq] at hi
      rw [hi]
    have a3 : l.drop (i + 1) = (l.drop (i + 1)).take (j - i - 1) ++ (l.drop (i + 1)).drop (j - i - 1) := (List.take_append_drop _ _).symm
    have a4 : (l.drop (i + 1)).drop (j - i - 1) = y :: l.drop (j + 1) := by
      rw [List.drop_drop, show i + 1 + (j - i - 1) = j by omega, List.drop_eq_getElem_cons h2]
      rw [List.getElem?_eq_getElem h2, Option.some.injEq] at hj
      rw [hj]
    rw [← a4, ← a3, ← a2]
    exact a1
  have e2 : swp l i j x y = l.take i ++ y :: ((l.drop (i + 1)).take (j - i - 1) ++ x :: l.drop (j + 1)) := by
    refine List.ext_getElem? fun k => ?_
    rw [swp_get hi hj]
    have ht : (l.take i).length = i := by simp; omega
    have hm : ((l.drop (i + 1)).take (j - i - 1)).length = j - i - 1 := by simp; omega
    by_cases k1 : k < i
    · rw [if_neg (by omega), if_neg (by omega), List.getElem?_append_left (by omega), List.getElem?_take_of_lt k1]
    · rw [List.getElem?_append_right (by omega), ht]
      by_cases k2 : k = i
      · subst k2; rw [if_neg (by omega), if_pos rfl]; simp
      · rw [show k - i = (k - i - 1) + 1 by omega, List.getElem?_cons_succ]
        by_cases k3 : k < j
        · rw [if_neg (by omega), if_neg k2, List.getElem?_append_left (by omega), List.getElem?_take_of_lt (by omega), List.getElem?_drop]
          congr 1; omega
        · rw [List.getElem?_append_right (by omega), hm]
          by_cases k4 : k = j
          · subst k4; rw [if_pos rfl, show k - i - 1 - (k - i - 1) = 0 by omega]; rfl
          · rw [if_neg k4, if_neg k2, show k - i - 1 - (j - i - 1) = (k - j - 1) + 1 by omega, List.getElem?_cons_succ, List.getElem?_drop]
            congr 1; omega
  rw [e2]
  conv => rhs; rw [e1]
  refine List.Perm.append_left _ ?_
  refine (List.Perm.cons y (List.perm_middle)).trans ?_
  refine (List.Perm.swap x y _).trans ?_
  exact List.Perm.cons x List.perm_middle.symm
theorem swp_self {l : List α} {i : Nat} {x y : α} (hi : l[i]? = some x) (hj : l[i]? = some y) : swp l i i x y = l := by
  refine List.ext_getElem? fun k => ?_
  rw [swp_get hi hj]
  by_cases e : k = i
  · subst e; rw [if_pos rfl, hi]
  · rw [if_neg e, if_neg e]
theorem swp_perm {l : List α} {i j : Nat} {x y : α} (hi : l[i]? = some x) (hj : l[j]? = some y) : (swp l i j x y).Perm l := by
  rcases Nat.lt_trichotomy i j with h | rfl | h
  · exact swp_lt hi hj h
  · rw [swp_self hi hj]
  · have : swp l i j x y = swp l j i y x := by
      refine List.ext_getElem? fun k => ?_
      rw [swp_get hi hj, swp_get hj hi]
      by_cases e1 : k = j
      · rw [if_pos e1, if_neg (by omega), if_pos e1]
      · rw [if_neg e1]
        by_cases e2 : k = i
        · rw [if_pos e2, if_pos e2]
        · rw [if_neg e2, if_neg e2, if_neg e1]
    rw [this]
    exact swp_lt hj hi h

variable (key : α → Int)
/-- The first n of a list are a heap, but for what stands at j against what is above it, and below it. -/
structure Hpx (n : Nat) (l : List α) (P : Nat → Prop) : Prop where
  ord : ∀ (k : Nat) (x y : α), 0 < k → k < n → ¬ P k → l[k]? = some x → l[(k - 1) / 2]? = some y → key y ≤ key x
/-- A heap. -/
def Hp (l : List α) : Prop := Hpx key l.length l (fun _ => False)
variable {key}
theorem hp_nil : Hp key ([] : List α) := ⟨fun k x y _ h => by simp at h⟩
/-- Upward: all is in order but for j; what is below j is in order with what is above it. -/
structure Upx (key : α → Int) (l : List α) (j : Nat) : Prop where
  ord : ∀ (k : Nat) (x y : α), 0 < k → k ≠ j → l[k]? = some x → l[(k - 1) / 2]? = some y → key y ≤ key x
  two : ∀ (k : Nat) (x y : α), 0 < k → 0 < j → (k - 1) / 2 = j → l[k]? = some x → l[(j - 1) / 2]? = some y → key y ≤ key x
theorem Upx.start {l : List α} (h : Hp key l) (x : α) : Upx key (l ++ [x]) l.length := by
  refine ⟨fun k a b hk hne ha hb => ?_, fun k a b hk hj he ha hb => ?_⟩
  · have hkl := (List.getElem?_eq_some_iff.1 ha).1
    simp at hkl
    rw [List.getElem?_append_left (by omega)] at ha hb
    exact h.ord k a b hk (by omega) (by simp) ha hb
  · have hkl := (List.getElem?_eq_some_iff.1 ha).1
    simp at hkl
    omega
theorem Upx.done {l : List α} {j : Nat} (h : Upx key l j) (hj : j = 0 ∨ ∃ x y, l[j]? = some x ∧ l[(j - 1) / 2]? = some y ∧ key y ≤ key x) : Hp key l := by
  refine ⟨fun k a b hk _ _ ha hb => ?_⟩
  by_cases e : k = j
  · subst e
    rcases hj with rfl | ⟨x, y, h1, h2, h3⟩
    · omega
    · rw [h1] at ha; rw [h2] at hb
      simp only [Option.some.injEq] at ha hb
      subst ha hb; exact h3
  · exact h.ord k a b hk e ha hb
theorem Upx.step {l : List α} {j : Nat} {x y : α} (h : Upx key l j) (hj : 0 < j) (hx : l[j]? = some x) (hy : l[(j - 1) / 2]? = some y) (hlt : key x < key y) : Upx key (swp l ((j - 1) / 2) j y x) ((j - 1) / 2) := by
  have hi : (j - 1) / 2 < j := by omega
  refine ⟨fun k a b hk hne ha hb => ?_, fun k a b hk h0 he ha hb => ?_⟩
  · rw [swp_get hy hx] at ha hb
    by_cases e1 : k = j
    · subst e1
      rw [if_pos rfl] at ha
      rw [if_neg (by omega), if_pos rfl] at hb
      simp only [Option.some.injEq] at ha hb
      subst ha hb
      omega
    · rw [if_neg e1, if_neg hne] at ha
      by_cases e2 : (k - 1) / 2 = j
      · rw [if_pos e2] at hb
        simp only [Option.some.injEq] at hb
        subst hb
        exact h.two k a y hk hj e2 ha hy
      · rw [if_neg e2] at hb
        by_cases e3 : (k - 1) / 2 = (j - 1) / 2
        · rw [if_pos e3] at hb
          simp only [Option.some.injEq] at hb
          subst hb
          have := h.ord k a y hk e1 ha (by rw [e3]; exact hy)
          omega
        · rw [if_neg e3] at hb
          exact h.ord k a b hk e1 ha hb
  · rw [swp_get hy hx] at ha hb
    rw [if_neg (by omega), if_neg (by omega)] at hb
    have hyb := h.ord ((j - 1) / 2) y b h0 (by omega) hy hb
    by_cases e1 : k = j
    · subst e1
      rw [if_pos rfl] at ha
      simp only [Option.some.injEq] at ha
      subst ha
      exact hyb
    · rw [if_neg e1, if_neg (by omega)] at ha
      have := h.ord k a y hk e1 ha (by rw [he]; exact hy)
      omega

/-- Downward, among the first n: all is in order but for what is below i; that is in order with what is above i. -/
structure Dnx (key : α → Int) (n : Nat) (l : List α) (i : Nat) : Prop where
  ord : ∀ (k : Nat) (x y : α), 0 < k → k < n → (k - 1) / 2 ≠ i → l[k]? = some x → l[(k - 1) / 2]? = some y → key y ≤ key x
  two : ∀ (k : Nat) (x y : α), 0 < k → k < n → (k - 1) / 2 = i → 0 < i → l[k]? = some x → l[(i - 1) / 2]? = some y → key y ≤ key x
theorem Dnx.done {n : Nat} {l : List α} {i : Nat} {z : α} (h : Dnx key n l i) (hz : l[i]? = some z) (hc : ∀ (k : Nat) (x : α), 0 < k → k < n → (k - 1) / 2 = i → l[k]? = some x → key z ≤ key x) : Hpx key n l (fun _ => False) := by
  refine ⟨fun k a b hk hkn _ ha hb => ?_⟩
  by_cases e : (k - 1) / 2 = i
  · rw [e, hz] at hb
    simp only [Option.some.injEq] at hb
    subst hb
    exact hc k a hk hkn e ha
  · exact h.ord k a b hk hkn e ha hb
theorem Dnx.step {n : Nat} {l : List α} {i j : Nat} {x z : α} (h : Dnx key n l i) (hz : l[i]? = some z) (hx : l[j]? = some x) (hj : 0 < j) (hjn : j < n) (hji : (j - 1) / 2 = i) (hlt : key x < key z) (hmin : ∀ (k : Nat) (y : α), 0 < k → k < n → (k - 1) / 2 = i → l[k]? = some y → key x ≤ key y) : Dnx key n (swp l i j z x) j := by
  have hij : i < j := by omega
  refine ⟨fun k a b hk hkn hne ha hb => ?_, fun k a b hk hkn he h0 ha hb => ?_⟩
  · rw [swp_get hz hx] at ha hb
    rw [if_neg hne] at hb
    by_cases e1 : k = j
    · subst e1
      rw [if_pos rfl] at ha
      rw [if_pos hji] at hb
      simp only [Option.some.injEq] at ha hb
      subst ha hb
      omega
    · rw [if_neg e1] at ha
      by_cases e2 : k = i
      · subst e2
        rw [if_pos rfl] at ha
        simp only [Option.some.injEq] at ha
        subst ha
        rw [if_neg (by omega)] at hb
        exact h.two j x b hj hjn hji (by omega) hx hb
      · rw [if_neg e2] at ha
        by_cases e3 : (k - 1) / 2 = i
        · rw [if_pos e3] at hb
          simp only [Option.some.injEq] at hb
          subst hb
          exact hmin k a hk hkn e3 ha
        · rw [if_neg e3] at hb
          exact h.ord k a b hk hkn e3 ha hb
  · rw [swp_get hz hx] at ha hb
    rw [hji, if_neg (by omega), if_pos rfl] at hb
    rw [if_neg (by omega), if_neg (by omega)] at ha
    simp only [Option.some.injEq] at hb
    subst hb
    exact h.ord k a x hk hkn (by omega) ha (by rw [he]; exact hx)
/-- In a heap the first is the least. -/
theorem Hp.least {l : List α} (h : Hp key l) {x : α} (hx : l[0]? = some x) : ∀ (k : Nat) (y : α), l[k]? = some y → key x ≤ key y := by
  intro k
  induction k using Nat.strongRecOn with
  | _ k ih =>
    intro y hy
    by_cases e : k = 0
    · subst e; rw [hx] at hy; simp at hy; subst hy; exact Int.le_refl _
    · have hk := (List.getElem?_eq_some_iff.1 hy).1
      have hp : (k - 1) / 2 < l.length := by omega
      have h1 := ih ((k - 1) / 2) (by omega) l[(k - 1) / 2] (List.getElem?_eq_getElem hp)
      have h2 := h.ord k y _ (by omega) hk (by simp) hy (List.getElem?_eq_getElem hp)
      omega
/-- The first is put last, and the last first: all is in order but for what is below the first. -/
theorem Dnx.start {l : List α} {n : Nat} {x z : α} (h : Hp key l) (hn : l.length = n + 1) (hx : l[0]? = some x) (hz : l[n]? = some z) : Dnx key n (swp l 0 n x z) 0 := by
  refine ⟨fun k a b hk hkn hne ha hb => ?_, fun k a b hk hkn he h0 ha hb => by omega⟩
  rw [swp_get hx hz] at ha hb
  rw [if_neg (by omega), if_neg (by omega)] at ha
  rw [if_neg (by omega), if_neg hne] at hb
  exact h.ord k a b hk (by omega) (by simp) ha hb
theorem hp_take {l0 : List α} {x : α} {n : Nat} (hn : l0.length = n) (h : Hpx key n (l0 ++ [x]) (fun _ => False)) : Hp key l0 := by
  refine ⟨fun k a b hk hkn _ ha hb => h.ord k a b hk (by omega) (by simp) ?_ ?_⟩
  · rw [List.getElem?_append_left (by omega)]; exact ha
  · rw [List.getElem?_append_left (by omega)]; exact hb
end
end Go.Proofs.Ytnpbdcjfealoeaa
