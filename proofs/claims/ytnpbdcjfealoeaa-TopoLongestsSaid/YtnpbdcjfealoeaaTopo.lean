/- What comes ahead of what, plainly. -/
import Derived.Test.YtnpbdcjfealoeaaAmP
import Derived.Test.YtnpbdcjfealoeaaFrom
import Derived.Test.YtnpbdcjfealoeaaHeap
namespace Go.Proofs.Ytnpbdcjfealoeaa
open Go.RowKit
set_option linter.unusedSimpArgs false
set_option linter.unusedVariables false

/-- How many of some arcs lead to q. -/
def cntT (l : List Ar) (q : Nat) : Nat := (l.filter fun a => decide (a.t = (q : Int))).length
theorem cntT_nil (q : Nat) : cntT [] q = 0 := rfl
theorem cntT_app (l l' : List Ar) (q : Nat) : cntT (l ++ l') q = cntT l q + cntT l' q := by simp [cntT]
theorem cntT_snoc {l : List Ar} {i : Nat} {a : Ar} (h : l[i]? = some a) (q : Nat) : cntT (l.take (i + 1)) q = cntT (l.take i) q + if a.t = (q : Int) then 1 else 0 := by
  rw [take_snoc h, cntT_app]
  unfold cntT
  by_cases e : a.t = (q : Int) <;> simp [e]
theorem cntT_le (l : List Ar) (i q : Nat) : cntT (l.take i) q ≤ cntT l q := by
  have : l = l.take i ++ l.drop i := (List.take_append_drop i l).symm
  conv => rhs; rw [this]
  rw [cntT_app]; omega
theorem cntT_len (l : List Ar) (q : Nat) : cntT l q ≤ l.length := List.length_filter_le _ _
theorem cntT_pos {l : List Ar} {i q : Nat} {a : Ar} (h : l[i]? = some a) (ha : a.t = (q : Int)) : cntT (l.take i) q + 1 ≤ cntT l q := by
  have h1 := cntT_snoc h q
  rw [if_pos ha] at h1
  have h2 := cntT_le l (i + 1) q
  omega
/-- How many arcs lead to q from states that are not out. -/
def wN (sts : List St) (out : List Nat) (q : Nat) : Nat → Nat
  | 0 => 0
  | k + 1 => wN sts out q k + if k ∈ out then 0 else cntT (stA sts k) q
theorem wN_le {sts : List St} (out : List Nat) (q : Nat) : ∀ k, wN sts out q k ≤ (((List.range k).map fun p => (stA sts p).length).sum)
  | 0 => by simp [wN]
  | k + 1 => by
    have := wN_le (sts := sts) out q k
    simp only [wN, List.range_succ, List.map_append, List.sum_append, List.map_cons, List.map_nil, List.sum_cons, List.sum_nil]
    have := cntT_len (stA sts k) q
    split <;> omega
theorem wN_snoc {sts : List St} {out : List Nat} {p : Nat} (q : Nat) (hp : p ∉ out) : ∀ k, wN sts out q k = wN sts (out ++ [p]) q k + if p < k then cntT (stA sts p) q else 0
  | 0 => by simp [wN]
  | k + 1 => by
    have ih := wN_snoc (sts := sts) q hp k
    simp only [wN, ih]
    by_cases e : k = p
    · subst e
      simp [hp]
    · have h1 : (k ∈ out ++ [p]) ↔ k ∈ out := by simp [e]
      by_cases hk : k ∈ out
      · rw [if_pos hk, if_pos (h1.2 hk)]
        by_cases hpk : p < k
        · rw [if_pos hpk, if_pos (by omega)]; omega
        · rw [if_neg hpk, if_neg (by omega)]
      · rw [if_neg hk, if_neg (fun h => hk (h1.1 h))]
        by_cases hpk : p < k
        · rw [if_pos hpk, if_pos (by omega)]; omega
        · rw [if_neg hpk, if_neg (by omega)]; omega
theorem wN_zero {sts : List St} {out : List Nat} {q : Nat} : ∀ {k : Nat}, wN sts out q k = 0 ↔ ∀ p, p < k → p ∉ out → cntT (stA sts p) q = 0
  | 0 => by simp [wN]
  | k + 1 => by
    have ih := wN_zero (sts := sts) (out := out) (q := q) (k := k)
    simp only [wN]
    constructor
    · intro h p hp ho
      by_cases e : p = k
      · subst e; rw [if_neg ho] at h; omega
      · exact ih.1 (by omega) p (by omega) ho
    · intro h
      have h1 := ih.2 fun p hp ho => h p (by omega) ho
      rw [h1]
      split
      · rfl
      · rename_i ho; rw [h k (by omega) ho]
/-- May q come next? -/
def mayN (sts : List St) (out : List Nat) (q : Nat) : Bool := decide (q ∉ out) && decide (wN sts out q sts.length = 0)
/-- The least state that may come next. -/
def nextQ (sts : List St) (out : List Nat) : Option Nat := (List.range sts.length).find? (mayN sts out)
/-- States in order, as far as it goes. -/
def ordL (sts : List St) : Nat → List Nat → List Nat
  | 0, out => out
  | k + 1, out => match nextQ sts out with
    | some q => ordL sts k (out ++ [q])
    | none => out
theorem find_range {n q : Nat} {p : Nat → Bool} (hq : q < n) (hp : p q = true) (hm : ∀ r, r < q → p r = false) : (List.range n).find? p = some q := by
  rw [List.find?_eq_some_iff_append]
  refine ⟨hp, List.range q, (List.range (n - q - 1)).map (· + (q + 1)), ?_, ?_⟩
  · refine List.ext_getElem? fun i => ?_
    by_cases h1 : i < q
    · rw [List.getElem?_range (by omega), List.getElem?_append_left (by simpa using h1), List.getElem?_range h1]
    · rw [List.getElem?_append_right (by simpa using h1), List.length_range]
      by_cases h2 : i = q
      · subst h2; simp [List.getElem?_range hq]
      · rw [show i - q = (i - q - 1) + 1 by omega, List.getElem?_cons_succ, List.getElem?_map]
        by_cases h3 : i < n
        · rw [List.getElem?_range h3, List.getElem?_range (by omega), Option.map_some]; congr 1; omega
        · rw [List.getElem?_eq_none (by simpa using h3), List.getElem?_eq_none (by simp; omega)]; rfl
  · intro r hr
    simpa using hm r (by simpa using hr)
theorem nextQ_some {sts : List St} {out : List Nat} {q : Nat} (hq : q < sts.length) (hp : mayN sts out q = true) (hm : ∀ r, r < q → mayN sts out r = false) : nextQ sts out = some q := find_range hq hp hm
theorem nextQ_none {sts : List St} {out : List Nat} (h : ∀ q, q < sts.length → mayN sts out q = false) : nextQ sts out = none := by
  unfold nextQ
  rw [List.find?_eq_none]
  intro q hq
  rw [h q (List.mem_range.1 hq)]; simp
theorem nodup_len : ∀ {n : Nat} {l : List Nat}, l.Nodup → (∀ x ∈ l, x < n) → l.length ≤ n
  | 0, l, _, h => by
    cases l with
    | nil => simp
    | cons x l => exact absurd (h x (by simp)) (by omega)
  | n + 1, l, hd, h => by
    have h1 := nodup_len (n := n) (l := l.filter (fun x => x != n)) (hd.filter _) (fun x hx => by
      simp only [List.mem_filter, bne_iff_ne, ne_eq] at hx
      have := h x hx.1
      omega)
    have h2 : ∀ (l : List Nat), l.Nodup → l.length ≤ (l.filter (fun x => x != n)).length + 1 := by
      intro l
      induction l with
      | nil => simp
      | cons y l ih =>
        intro hd
        have hd' := List.nodup_cons.1 hd
        by_cases e : y = n
        · subst e
          have : l.filter (fun x => x != y) = l := List.filter_eq_self.2 fun x hx => by
            simp only [bne_iff_ne, ne_eq]; rintro rfl; exact hd'.1 hx
          simp [List.filter_cons, this]
        · have := ih hd'.2
          simp [List.filter_cons, e]
          omega
    have := h2 l hd
    omega
def ordE (m : Mach) : Int := if machE m ≠ 0 then machE m else if (ordL m.states m.states.length []).length < m.states.length then 6 else 0
def ordR (m : Mach) : List Nat := if ordE m = 0 then ordL m.states m.states.length [] else []
theorem ordR_nil {m : Mach} (h : ordE m ≠ 0) : ordR m = [] := by unfold ordR; rw [if_neg h]

/-- The program's way: W counts the arcs that are waited for; what is out or ready waits for none. -/
structure Tpo (n : Nat) (out ready W : List Nat) : Prop where
  nodup : (out ++ ready).Nodup
  mem : ∀ r, r ∈ out ++ ready ↔ W[r]? = some 0
  len : W.length = n
theorem Tpo.lt {n : Nat} {out ready W : List Nat} (h : Tpo n out ready W) : ∀ r ∈ out ++ ready, r < n := fun r hr => by
  rw [← h.len]; exact (List.getElem?_eq_some_iff.1 ((h.mem r).1 hr)).1
theorem Tpo.dec {n : Nat} {out ready W : List Nat} {r w : Nat} (h : Tpo n out ready W) (hr : W[r]? = some (w + 1)) (hw : w ≠ 0) : Tpo n out ready (W.set r w) := by
  have hl := (List.getElem?_eq_some_iff.1 hr).1
  refine ⟨h.nodup, fun x => ?_, by simpa using h.len⟩
  rw [h.mem x, List.getElem?_set]
  by_cases e : r = x
  · subst e; rw [if_pos rfl, if_pos hl, hr]; simp [hw]
  · rw [if_neg e]
theorem Tpo.zero {n : Nat} {out ready ready' W : List Nat} {r : Nat} (h : Tpo n out ready W) (hr : W[r]? = some 1) (hp : ready'.Perm (r :: ready)) : Tpo n out ready' (W.set r 0) := by
  have hl := (List.getElem?_eq_some_iff.1 hr).1
  have hno : r ∉ out ++ ready := fun hm => by have := (h.mem r).1 hm; rw [hr] at this; simp at this
  have hperm : (out ++ ready').Perm (r :: (out ++ ready)) := ((List.Perm.append_left out hp).trans List.perm_middle)
  refine ⟨hperm.nodup_iff.2 (List.nodup_cons.2 ⟨hno, h.nodup⟩), fun x => ?_, by simpa using h.len⟩
  rw [hperm.mem_iff, List.mem_cons, h.mem x, List.getElem?_set]
  by_cases e : r = x
  · subst e; simp [hl]
  · rw [if_neg e]; simp [Ne.symm e]
theorem Tpo.pop {n q : Nat} {out ready ready' W : List Nat} (h : Tpo n out ready W) (hp : ready.Perm (q :: ready')) : Tpo n (out ++ [q]) ready' W := by
  have hperm : ((out ++ [q]) ++ ready').Perm (out ++ ready) := by
    rw [List.append_assoc]
    exact List.Perm.append_left out hp.symm
  exact ⟨hperm.nodup_iff.2 h.nodup, fun x => by rw [hperm.mem_iff]; exact h.mem x, h.len⟩
/-- What W is at a round's head, and what is in order. -/
structure Tps (sts : List St) (n : Nat) (out ready W : List Nat) (R : List Nat) : Prop where
  tpo : Tpo n out ready W
  cnt : ∀ r, r < n → W[r]? = some (wN sts out r n)
  rest : ordL sts (n - out.length) out = R
theorem Tps.may {sts : List St} {n : Nat} {out ready W R : List Nat} (h : Tps sts n out ready W R) (hn : sts.length = n) {r : Nat} (hr : r < n) : mayN sts out r = true ↔ r ∈ ready := by
  subst hn
  have h1 := h.tpo.mem r
  rw [h.cnt r hr] at h1
  simp only [Option.some.injEq, List.mem_append] at h1
  have h2 : r ∈ ready → r ∉ out := fun a b => by
    have := List.nodup_append.1 h.tpo.nodup
    exact this.2.2 r b r a rfl
  simp only [mayN, Bool.and_eq_true, decide_eq_true_eq]
  constructor
  · rintro ⟨a, b⟩
    rcases h1.2 b with c | c
    · exact absurd c a
    · exact c
  · intro a
    exact ⟨h2 a, h1.1 (.inr a)⟩
theorem Tps.next {sts : List St} {n q : Nat} {out ready W R : List Nat} (h : Tps sts n out ready W R) (hn : sts.length = n) (hq : q ∈ ready) (hm : ∀ r ∈ ready, q ≤ r) : out.length < n ∧ ordL sts (n - (out ++ [q]).length) (out ++ [q]) = R := by
  have hlt := h.tpo.lt
  have hl := nodup_len h.tpo.nodup hlt
  have hpos : 0 < ready.length := List.length_pos_of_mem hq
  simp only [List.length_append] at hl
  have hqn := hlt q (by simp [hq])
  have hnext : nextQ sts out = some q := nextQ_some (by omega) ((h.may hn hqn).2 hq) fun r hr => by
    rw [Bool.eq_false_iff]
    intro hmr
    have := hm r ((h.may hn (by omega)).1 hmr)
    omega
  refine ⟨by omega, ?_⟩
  have hr := h.rest
  rw [show n - out.length = (n - (out ++ [q]).length) + 1 by simp; omega] at hr
  simp only [ordL, hnext] at hr
  exact hr
theorem Tps.done {sts : List St} {n : Nat} {out W R : List Nat} (h : Tps sts n out [] W R) (hn : sts.length = n) : out = R := by
  have hr := h.rest
  cases hk : n - out.length with
  | zero => rw [hk] at hr; exact hr
  | succ k =>
    rw [hk] at hr
    have : nextQ sts out = none := nextQ_none fun q hq => by
      rw [Bool.eq_false_iff]
      intro hm
      have := (h.may hn (by omega)).1 hm
      simp at this
    simp only [ordL, this] at hr
    exact hr
end Go.Proofs.Ytnpbdcjfealoeaa
