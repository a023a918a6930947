/- Runs of marks, plainly. -/
import Derived.Test.YtjbldphpkkmdpaaAmP
namespace Go.Proofs.Ytjbldphpkkmdpaa
open Go.RowKit
set_option linter.unusedSimpArgs false
set_option linter.unusedVariables false

structure Mk where
  s : Int
  w : Int
  o : List Int
structure Rn where
  f : Int
  ms : List Mk
abbrev mkD (m : Mk) : List D := [.p (.int .i64 m.s), .p (.int .i64 m.w), intsD m.o]
abbrev mksD (l : List Mk) : D := .sl 3 40 (l.map mkD)
abbrev rnV (r : Rn) : V := .agg [.i r.f, .d (mksD r.ms)]
abbrev mkV (m : Mk) : V := .agg ((mkD m).map V.d)

def cmpI (a b : Int) : Int := if a < b then -1 else if b < a then 1 else 0
def lexC : List Int → List Int → Int
  | [], [] => 0
  | [], _ :: _ => -1
  | _ :: _, [] => 1
  | a :: l, b :: m => if a = b then lexC l m else cmpI a b
theorem cmpI_self (a : Int) : cmpI a a = 0 := by simp [cmpI]
theorem cmpI_ne {a b : Int} (h : a ≠ b) : cmpI a b ≠ 0 := by unfold cmpI; split <;> (try split) <;> omega
theorem cmpI_z {a b : Int} (h : cmpI a b = 0) : a = b := by unfold cmpI at h; split at h <;> (try split at h) <;> omega
theorem cmpI_neg {a b : Int} : (cmpI a b < 0) ↔ a < b := by unfold cmpI; split <;> (try split) <;> omega
theorem lexC_self : ∀ l : List Int, lexC l l = 0
  | [] => rfl
  | a :: l => by simp [lexC, lexC_self l]
theorem lexC_drop : ∀ (k : Nat) (l m : List Int), l.take k = m.take k → k ≤ l.length → k ≤ m.length → lexC l m = lexC (l.drop k) (m.drop k)
  | 0, l, m, _, _, _ => by simp
  | k + 1, [], _, _, h, _ => by simp at h
  | k + 1, _ :: _, [], _, _, h => by simp at h
  | k + 1, a :: l, b :: m, h, h1, h2 => by
    simp only [List.take_succ_cons, List.cons.injEq] at h
    obtain ⟨rfl, h⟩ := h
    simp only [List.length_cons] at h1 h2
    simp only [lexC, if_true, List.drop_succ_cons]
    exact lexC_drop k l m h (by omega) (by omega)
theorem lexC_diff {k : Nat} {l m : List Int} {a b : Int} (h : l.take k = m.take k) (ha : l[k]? = some a) (hb : m[k]? = some b) (hab : a ≠ b) : lexC l m = cmpI a b := by
  have h1 := (List.getElem?_eq_some_iff.1 ha).1
  have h2 := (List.getElem?_eq_some_iff.1 hb).1
  rw [lexC_drop k l m h (by omega) (by omega), List.drop_eq_getElem_cons h1, List.drop_eq_getElem_cons h2]
  rw [List.getElem?_eq_getElem h1, Option.some.injEq] at ha
  rw [List.getElem?_eq_getElem h2, Option.some.injEq] at hb
  subst ha hb
  simp [lexC, hab]
theorem lexC_long {k : Nat} {l m : List Int} (h : l.take k = m.take k) (ha : k < l.length) (hb : m.length = k) : lexC l m = 1 := by
  rw [lexC_drop k l m h (by omega) (by omega), List.drop_eq_getElem_cons ha, List.drop_of_length_le (l := m) (by omega)]
  rfl
theorem lexC_short {k : Nat} {l m : List Int} (h : l.take k = m.take k) (ha : l.length = k) (hb : k < m.length) : lexC l m = -1 := by
  rw [lexC_drop k l m h (by omega) (by omega), List.drop_eq_getElem_cons hb, List.drop_of_length_le (l := l) (by omega)]
  rfl
theorem lexC_same {k : Nat} {l m : List Int} (h : l.take k = m.take k) (ha : l.length = k) (hb : m.length = k) : lexC l m = 0 := by
  rw [List.take_of_length_le (by omega), List.take_of_length_le (by omega)] at h
  subst h
  exact lexC_self l
theorem take_both {k : Nat} {l m : List Int} {a : Int} (h : l.take k = m.take k) (ha : l[k]? = some a) (hb : m[k]? = some a) : l.take (k + 1) = m.take (k + 1) := by
  rw [List.take_add_one, List.take_add_one, h, ha, hb]

def orI : List Int → Int
  | [] => 0
  | a :: l => if a = 0 then orI l else a
theorem orI_drop : ∀ (k : Nat) (l : List Int), (∀ x ∈ l.take k, x = 0) → orI l = orI (l.drop k)
  | 0, _, _ => by simp
  | k + 1, [], _ => by simp
  | k + 1, a :: l, h => by
    have h1 := h a (by simp)
    simp only [orI, h1, if_true, List.drop_succ_cons]
    exact orI_drop k l (fun x hx => h x (by simp [hx]))
theorem orI_step {k : Nat} {l : List Int} {x : Int} (hx : l[k]? = some x) (h : x = 0) : orI (l.drop k) = orI (l.drop (k + 1)) := by
  have h1 := (List.getElem?_eq_some_iff.1 hx).1
  rw [List.drop_eq_getElem_cons h1]
  rw [List.getElem?_eq_getElem h1, Option.some.injEq] at hx
  simp [orI, hx, h]
theorem orI_hit {k : Nat} {l : List Int} {x : Int} (hx : l[k]? = some x) (h : x ≠ 0) : orI (l.drop k) = x := by
  have h1 := (List.getElem?_eq_some_iff.1 hx).1
  rw [List.drop_eq_getElem_cons h1]
  rw [List.getElem?_eq_getElem h1, Option.some.injEq] at hx
  simp [orI, hx, h]
theorem orI_end {k : Nat} {l : List Int} (h : l.length ≤ k) : orI (l.drop k) = 0 := by rw [List.drop_of_length_le h]; rfl

/-- P21.2. -/
def better (a b : Mk) : Bool := decide (orI [cmpI a.w b.w, cmpI a.o.length b.o.length, lexC a.o b.o] < 0)
theorem better_w {a b : Mk} (h : a.w ≠ b.w) : better a b = decide (a.w < b.w) := by
  simp [better, orI, cmpI_ne h, cmpI_neg]
theorem better_l {a b : Mk} (h : a.w = b.w) (h2 : a.o.length ≠ b.o.length) : better a b = decide (a.o.length < b.o.length) := by
  have h3 : (a.o.length : Int) ≠ b.o.length := by omega
  simp only [better, orI, h, cmpI_self, if_true, if_neg (cmpI_ne h3), cmpI_neg]
  simp
theorem better_o {a b : Mk} (h : a.w = b.w) (h2 : a.o.length = b.o.length) : better a b = decide (lexC a.o b.o < 0) := by
  simp only [better, orI, h, h2, cmpI_self, if_true]
  by_cases h0 : lexC a.o b.o = 0
  · simp [h0]
  · simp [h0]

def outOk (o : List Int) : Bool := o.all fun y => decide (1 ≤ y ∧ y ≤ 1000)
def mkOk (n : Nat) (last : Int) (x : Mk) : Bool := decide (last < x.s ∧ x.s < n ∧ 0 ≤ x.w ∧ x.w ≤ 1000000000 ∧ x.o.length ≤ 800) && outOk x.o
def mksOk (n : Nat) : Int → List Mk → Bool
  | _, [] => true
  | last, x :: l => mkOk n last x && mksOk n x.s l
def runMay (n : Nat) (r : Rn) : Bool := decide (0 ≤ r.f ∧ r.f ≤ 12) && mksOk n (-1) r.ms
theorem drop_at {α : Type} {l : List α} {k : Nat} {x : α} (h : l[k]? = some x) : l.drop k = x :: l.drop (k + 1) := by
  have h1 := (List.getElem?_eq_some_iff.1 h).1
  rw [List.drop_eq_getElem_cons h1]
  rw [List.getElem?_eq_getElem h1, Option.some.injEq] at h
  rw [h]
theorem mksOk_yes {n : Nat} {l : List Mk} {k : Nat} {x : Mk} {last : Int} (h : l[k]? = some x) (hx : mkOk n last x = true) : mksOk n last (l.drop k) = mksOk n x.s (l.drop (k + 1)) := by
  rw [drop_at h, mksOk, hx, Bool.true_and]
theorem mksOk_no {n : Nat} {l : List Mk} {k : Nat} {x : Mk} {last : Int} (h : l[k]? = some x) (hx : mkOk n last x = false) : mksOk n last (l.drop k) = false := by
  rw [drop_at h, mksOk, hx, Bool.false_and]
theorem mksOk_end {n : Nat} {l : List Mk} {k : Nat} {last : Int} (h : l.length ≤ k) : mksOk n last (l.drop k) = true := by
  rw [List.drop_of_length_le h]; rfl
theorem mkOk_yes {n : Nat} {x : Mk} {last : Int} (h : last < x.s ∧ x.s < n ∧ 0 ≤ x.w ∧ x.w ≤ 1000000000 ∧ x.o.length ≤ 800) (h2 : outOk x.o = true) : mkOk n last x = true := by
  simp only [mkOk, h2, Bool.and_true, decide_eq_true_eq]; exact h
theorem mkOk_no {n : Nat} {x : Mk} {last : Int} (h : ¬ (last < x.s ∧ x.s < n ∧ 0 ≤ x.w ∧ x.w ≤ 1000000000 ∧ x.o.length ≤ 800)) : mkOk n last x = false := by
  simp only [mkOk, Bool.and_eq_false_iff, decide_eq_false_iff_not]; exact .inl h
theorem mkOk_out {n : Nat} {x : Mk} {last : Int} (h2 : outOk x.o = false) : mkOk n last x = false := by
  simp [mkOk, h2]
theorem mksOk_mem {n : Nat} : ∀ {l : List Mk} {last : Int}, mksOk n last l = true → -1 ≤ last → ∀ x ∈ l, 0 ≤ x.s ∧ x.s < n ∧ 0 ≤ x.w ∧ x.w ≤ 1000000000 ∧ x.o.length ≤ 800
  | [], _, _, _, x, hx => by simp at hx
  | y :: l, last, h, hl, x, hx => by
    simp only [mksOk, Bool.and_eq_true] at h
    have h1 := h.1
    simp only [mkOk, Bool.and_eq_true, decide_eq_true_eq] at h1
    rcases List.mem_cons.1 hx with rfl | hx
    · omega
    · exact mksOk_mem h.2 (by omega) x hx

def finAt (sts : List St) (q : Int) : Int := match sts[q.toNat]? with
  | some x => x.fin
  | none => 0
theorem finAt_of {sts : List St} {p : Nat} {x : St} (h : sts[p]? = some x) : finAt sts p = x.fin := by simp [finAt, h]
def endStep (sts : List St) (b x : Mk) : Mk :=
  if finAt sts x.s = 1000000001 then b else if b.s < 0 ∨ better ⟨x.s, x.w + finAt sts x.s, x.o⟩ b = true then ⟨x.s, x.w + finAt sts x.s, x.o⟩ else b
def endBest (sts : List St) (l : List Mk) : Mk := l.foldl (endStep sts) ⟨-1, 0, []⟩
def endE (m : Mach) (r : Rn) : Int :=
  if machE m ≠ 0 then machE m else if runMay m.states.length r = false then 13 else if (endBest m.states r.ms).s < 0 then 12 else if 1000000000 < (endBest m.states r.ms).w then 4 else 0
def endO (m : Mach) (r : Rn) : List Int := if endE m r = 0 then (endBest m.states r.ms).o else []
def endW (m : Mach) (r : Rn) : Int := if endE m r = 0 then (endBest m.states r.ms).w else 0
theorem fold_step {sts : List St} {l : List Mk} {k : Nat} {x b : Mk} (h : l[k]? = some x) : (l.drop k).foldl (endStep sts) b = (l.drop (k + 1)).foldl (endStep sts) (endStep sts b x) := by
  rw [drop_at h, List.foldl_cons]
theorem fold_end {sts : List St} {l : List Mk} {k : Nat} {b : Mk} (h : l.length ≤ k) : (l.drop k).foldl (endStep sts) b = b := by
  rw [List.drop_of_length_le h]; rfl
theorem endStep_inf {sts : List St} {b x : Mk} (h : finAt sts x.s = 1000000001) : endStep sts b x = b := by simp [endStep, h]
theorem endStep_none {sts : List St} {b x : Mk} {f : Int} (hf : finAt sts x.s = f) (h : f ≠ 1000000001) (hb : b.s < 0) : endStep sts b x = ⟨x.s, x.w + f, x.o⟩ := by simp [endStep, h, hb, hf]
theorem endStep_yes {sts : List St} {b x : Mk} {f : Int} (hf : finAt sts x.s = f) (h : f ≠ 1000000001) (hb : better ⟨x.s, x.w + f, x.o⟩ b = true) : endStep sts b x = ⟨x.s, x.w + f, x.o⟩ := by simp [endStep, h, hb, hf]
theorem endStep_no {sts : List St} {b x : Mk} {f : Int} (hf : finAt sts x.s = f) (h : f ≠ 1000000001) (h0 : ¬ b.s < 0) (hb : better ⟨x.s, x.w + f, x.o⟩ b = false) : endStep sts b x = b := by simp [endStep, h, hb, hf, h0]
end Go.Proofs.Ytjbldphpkkmdpaa
