/- What a machine is like, plainly. -/
import Derived.Test.YtjbldphpkkmdpaaAmP
import Derived.Test.YtjbldphpkkmdpaaStrm
import Derived.Test.YtjbldphpkkmdpaaAmEnt
namespace Go.Proofs.Ytjbldphpkkmdpaa
open Go.RowKit
set_option linter.unusedSimpArgs false
set_option linter.unusedVariables false

def ordC (a b : Ar) : Int := orI [cmpI a.i b.i, cmpI a.o b.o, cmpI a.t b.t, cmpI a.w b.w]
def ahd (a b : Ar) : Bool := if a.i ≠ b.i then decide (a.i < b.i) else if a.o ≠ b.o then decide (a.o < b.o) else if a.t ≠ b.t then decide (a.t < b.t) else decide (a.w < b.w)
theorem ordC_neg (a b : Ar) : (ordC a b < 0) ↔ ahd a b = true := by
  unfold ordC ahd
  by_cases h1 : a.i = b.i
  · by_cases h2 : a.o = b.o
    · by_cases h3 : a.t = b.t
      · by_cases h4 : a.w = b.w
        · simp [orI, h1, h2, h3, h4, cmpI_self]
        · simp [orI, h1, h2, h3, cmpI_self, cmpI_ne h4, cmpI_neg]
      · simp [orI, h1, h2, cmpI_self, cmpI_ne h3, cmpI_neg, h3]
    · simp [orI, h1, cmpI_self, cmpI_ne h2, cmpI_neg, h2]
  · simp [orI, cmpI_ne h1, cmpI_neg, h1]
theorem ahd_iff {a b : Ar} : ahd a b = true ↔ a.i < b.i ∨ a.i = b.i ∧ (a.o < b.o ∨ a.o = b.o ∧ (a.t < b.t ∨ a.t = b.t ∧ a.w < b.w)) := by
  unfold ahd
  by_cases h1 : a.i = b.i
  · by_cases h2 : a.o = b.o
    · by_cases h3 : a.t = b.t
      · simp [h1, h2, h3]
      · simp [h1, h2, h3]
    · simp [h1, h2]
  · simp [h1]
theorem ahd_trans {a b x : Ar} (h1 : ahd a b = false) (h2 : ahd b x = false) : ahd a x = false := by
  rw [Bool.eq_false_iff] at h1 h2 ⊢
  rw [ne_eq, ahd_iff] at h1 h2 ⊢
  omega
def arAt (l : List Ar) (k : Nat) : Ar := l.getD k ⟨0, 0, 0, 0⟩
theorem arAt_of {l : List Ar} {k : Nat} {a : Ar} (h : l[k]? = some a) : arAt l k = a := by simp [arAt, List.getD_eq_getElem?_getD, h]
/-- Pairs stand as they should, up to the k-th. -/
def srtN (l : List Ar) : Nat → Bool
  | 0 => true
  | k + 1 => srtN l k && (l.take k).all fun b => !ahd (arAt l k) b
def disN (l : List Ar) : Nat → Bool
  | 0 => true
  | k + 1 => disN l k && (l.take k).all fun b => !(decide ((arAt l k).i = b.i) && decide ((arAt l k).o = b.o))
/-- Neighbours stand as they should, from the k-th on. -/
def adjN (l : List Ar) : Nat → Bool
  | 0 => true
  | k + 1 => if k + 1 < l.length then (!ahd (arAt l (k + 1)) (arAt l k)) && adjN l k else adjN l k
theorem adj_all {l : List Ar} : ∀ {k : Nat}, adjN l k = true ↔ ∀ i, i < k → i + 1 < l.length → ahd (arAt l (i + 1)) (arAt l i) = false
  | 0 => by simp [adjN]
  | k + 1 => by
    have ih := adj_all (l := l) (k := k)
    simp only [adjN]
    constructor
    · intro h i hi hl
      by_cases e : i = k
      · subst e
        rw [if_pos hl] at h
        simp only [Bool.and_eq_true, Bool.not_eq_true'] at h
        exact h.1
      · refine ih.1 ?_ i (by omega) hl
        split at h
        · simp only [Bool.and_eq_true] at h; exact h.2
        · exact h
    · intro h
      have h2 := ih.2 fun i hi hl => h i (by omega) hl
      split
      · rename_i hl
        simp only [Bool.and_eq_true, Bool.not_eq_true']
        exact ⟨h k (by omega) hl, h2⟩
      · exact h2
theorem srt_all {l : List Ar} : ∀ {k : Nat}, k ≤ l.length → (srtN l k = true ↔ ∀ i j, j < i → i < k → ahd (arAt l i) (arAt l j) = false)
  | 0, _ => by simp [srtN]
  | k + 1, hk => by
    have ih := srt_all (l := l) (k := k) (by omega)
    simp only [srtN, Bool.and_eq_true, ih, List.all_eq_true, Bool.not_eq_true']
    constructor
    · rintro ⟨h1, h2⟩ i j hj hi
      by_cases e : i = k
      · subst e
        refine h2 _ ?_
        have hx : l[j]? = some l[j] := List.getElem?_eq_getElem (by omega)
        rw [arAt_of hx]
        exact List.mem_of_getElem? (i := j) (by rw [List.getElem?_take_of_lt hj]; exact hx)
      · exact h1 i j hj (by omega)
    · intro h
      refine ⟨fun i j hj hi => h i j hj (by omega), fun b hb => ?_⟩
      obtain ⟨j, hj⟩ := List.getElem?_of_mem hb
      have hjl := (List.getElem?_eq_some_iff.1 hj).1
      simp at hjl
      rw [List.getElem?_take_of_lt (by omega)] at hj
      have := h k j (by omega) (by omega)
      rwa [arAt_of hj] at this
theorem adj_srt (l : List Ar) : adjN l l.length = srtN l l.length := by
  rw [Bool.eq_iff_iff, adj_all, srt_all (Nat.le_refl _)]
  constructor
  · intro h i
    induction i with
    | zero => intro j hj; omega
    | succ i ih =>
      intro j hj hi
      by_cases e : j = i
      · subst e; exact h j (by omega) hi
      · exact ahd_trans (h i (by omega) hi) (ih j (by omega) (by omega))
  · intro h i hi hl
    exact h (i + 1) i (by omega) hl
theorem adj_end {l : List Ar} : ∀ {k : Nat}, l.length ≤ k + 1 → adjN l k = adjN l (l.length - 1)
  | 0, h => by rw [show l.length - 1 = 0 by omega]
  | k + 1, h => by
    by_cases e : k + 1 = l.length - 1
    · rw [e]
    · simp only [adjN, if_neg (show ¬ k + 1 < l.length by omega)]
      exact adj_end (by omega)

def cntP (p : Int × Int) (l : List Ar) : Nat := (l.filter fun a => decide ((a.i, a.o) = p)).length
theorem cntP_snoc {l : List Ar} {i : Nat} {a : Ar} (h : l[i]? = some a) (p : Int × Int) : cntP p (l.take (i + 1)) = cntP p (l.take i) + if p = (a.i, a.o) then 1 else 0 := by
  rw [take_snoc h]
  unfold cntP
  by_cases e : (a.i, a.o) = p
  · simp [e]
  · simp [e, Ne.symm e]
theorem cntP_le (p : Int × Int) (l : List Ar) : cntP p l ≤ l.length := List.length_filter_le _ _
theorem cntP_zero {a : Ar} {l : List Ar} : decide (cntP (a.i, a.o) l = 0) = l.all fun b => !(decide (a.i = b.i) && decide (a.o = b.o)) := by
  rw [Bool.eq_iff_iff, decide_eq_true_iff, List.all_eq_true]
  unfold cntP
  rw [List.length_eq_zero_iff, List.filter_eq_nil_iff]
  constructor
  · intro h b hb
    have := h b hb
    simp only [decide_eq_true_eq, Prod.mk.injEq] at this
    simp only [Bool.not_eq_true', Bool.and_eq_false_iff, decide_eq_false_iff_not]
    by_cases e : a.i = b.i
    · exact .inr fun e2 => this ⟨e.symm, e2.symm⟩
    · exact .inl e
  · intro h b hb
    have := h b hb
    simp only [decide_eq_true_eq, Prod.mk.injEq]
    rintro ⟨e1, e2⟩
    simp [e1, e2] at this
section
variable {K : Type} [DecidableEq K]
theorem mput_cons (k : K) (u : Int) (l : List (K × Int)) (a : K) (v : Int) : mput ((k, u) :: l) a v = if a = k then (a, v) :: l else (k, u) :: mput l a v := by
  unfold mput
  simp only [mfind]
  by_cases e : a = k
  · simp [e]
  · rw [if_neg e, if_neg e, mfind_shift]
    cases mfind l a 0 <;> simp
theorem mget_mput (a : K) (v : Int) (b : K) : ∀ l : List (K × Int), mget (mput l a v) b = if b = a then some v else mget l b
  | [] => by
    have : mput ([] : List (K × Int)) a v = [(a, v)] := rfl
    rw [this, mget_cons]
  | (k, u) :: l => by
    rw [mput_cons]
    by_cases e : a = k
    · subst e
      rw [if_pos rfl, mget_cons, mget_cons]
      split <;> rfl
    · rw [if_neg e, mget_cons, mget_mput a v b l, mget_cons]
      by_cases e2 : b = k
      · subst e2
        rw [if_pos rfl, if_neg (Ne.symm e), if_pos rfl]
      · rw [if_neg e2, if_neg e2]
theorem mput_len (a : K) (v : Int) : ∀ l : List (K × Int), (mput l a v).length ≤ l.length + 1
  | [] => by simp [mput, mfind]
  | (k, u) :: l => by
    rw [mput_cons]
    have := mput_len a v l
    split <;> simp
    omega
end
/-- The map tells how often each pair has been seen. -/
structure Seen (M : List ((Int × Int) × Int)) (l : List Ar) : Prop where
  cnt : ∀ p, (mget M p).getD 0 = (cntP p l : Int)
  len : M.length ≤ l.length
theorem Seen.nil : Seen [] [] := ⟨fun p => rfl, Nat.le_refl _⟩
theorem Seen.step {M : List ((Int × Int) × Int)} {l : List Ar} {i : Nat} {a : Ar} (h : Seen M (l.take i)) (ha : l[i]? = some a) : Seen (mput M (a.i, a.o) ((cntP (a.i, a.o) (l.take i) : Int) + 1)) (l.take (i + 1)) := by
  refine ⟨fun p => ?_, ?_⟩
  · rw [mget_mput, cntP_snoc ha]
    by_cases e : p = (a.i, a.o)
    · subst e; simp
    · rw [if_neg e, if_neg e, h.cnt p]; simp
  · have h1 := mput_len (a.i, a.o) ((cntP (a.i, a.o) (l.take i) : Int) + 1) M
    have h2 := h.len
    have h3 := (List.getElem?_eq_some_iff.1 ha).1
    rw [List.length_take] at h2 ⊢
    omega

def fA (a : Ar) : Bool := decide (a.i = a.o)
def fF (a : Ar) : Bool := !(decide (a.i = 0) && decide (a.o = 0))
def fW (a : Ar) : Bool := decide (a.w = 0)
def fP (x : Int) : Bool := decide (x = 0) || decide (x = 1000000001)
def bA (sts : List St) : Bool := sts.all fun s => s.arcs.all fA
def bFl (sts : List St) : Bool := sts.all fun s => s.arcs.all fF
def bPl (sts : List St) : Bool := sts.all fun s => fP s.fin && s.arcs.all fW
def bSo (sts : List St) : Bool := sts.all fun s => srtN s.arcs s.arcs.length
def bDi (sts : List St) : Bool := sts.all fun s => disN s.arcs s.arcs.length
theorem all_snoc {α : Type} {l : List α} {i : Nat} {a : α} (f : α → Bool) (h : l[i]? = some a) : (l.take (i + 1)).all f = ((l.take i).all f && f a) := by rw [take_snoc h]; simp [List.all_append]
theorem dis_snoc {l : List Ar} {i : Nat} {a : Ar} (h : l[i]? = some a) : disN l (i + 1) = (disN l i && decide (cntP (a.i, a.o) (l.take i) = 0)) := by
  rw [cntP_zero]
  simp only [disN, arAt_of h]
end Go.Proofs.Ytjbldphpkkmdpaa
