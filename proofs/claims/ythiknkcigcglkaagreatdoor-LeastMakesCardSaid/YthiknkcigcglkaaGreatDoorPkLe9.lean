/- Part 9 of what the law LeastMakes rests on. -/
import Derived.Shelf.SlSortCmp.InsertionK
import Derived.Shelf.SlSortCmp.NoneTotal
import Derived.Deep.QuietTactic
import Derived.Test.YthiknkcigcglkaaGreatDoorPkLe1
import Derived.Test.YthiknkcigcglkaaGreatDoorPkLe2
import Derived.Test.YthiknkcigcglkaaGreatDoorPkLe3
import Derived.Test.YthiknkcigcglkaaGreatDoorPkLe4
import Derived.Test.YthiknkcigcglkaaGreatDoorPkLe5
import Derived.Test.YthiknkcigcglkaaGreatDoorPkLe6
import Derived.Test.YthiknkcigcglkaaGreatDoorPkLe7
import Derived.Test.YthiknkcigcglkaaGreatDoorPkLe8
namespace Go.Proofs.YthiknkcigcglkaaGreatDoor
open Go.RowKit
set_option linter.unusedSimpArgs false
set_option linter.unusedVariables false
set_option maxRecDepth 100000
set_option maxHeartbeats 8000000
open Go.Sort (HoldsK grow)
open Go.Sort (grow)
open Go.Shelf Go.RowKit
open Go.Sort (HoldsK grow SWO)
open Go.Sort (grow alloc_eq_grow grow_grow)
def ordC (a b : Ar) : Int := orI [cmpI a.i b.i, cmpI a.o b.o, cmpI a.t b.t, cmpI a.w b.w]
def ahd (a b : Ar) : Bool := if a.i ≠ b.i then decide (a.i < b.i) else if a.o ≠ b.o then decide (a.o < b.o) else if a.t ≠ b.t then decide (a.t < b.t) else decide (a.w < b.w)
theorem ordC_neg (a b : Ar) : (ordC a b < 0) ↔ ahd a b = true := by
  unfold ordC ahd
  by_cases h1 : a.i = b.i
  · by_cases h2 : a.o = b.o
    · by_cases h3 : a.t = b.t
      · by_cases h4 : a.w = b.w
        · simp [orI, h1, h2, h3, h4, cmpI_self]
        simp [orI, h1, h2, h3, cmpI_self, cmpI_ne h4, cmpI_neg]
      simp [orI, h1, h2, cmpI_self, cmpI_ne h3, cmpI_neg, h3]
    simp [orI, h1, cmpI_self, cmpI_ne h2, cmpI_neg, h2]
  simp [orI, cmpI_ne h1, cmpI_neg, h1]
theorem ahd_iff {a b : Ar} : ahd a b = true ↔ a.i < b.i ∨ a.i = b.i ∧ (a.o < b.o ∨ a.o = b.o ∧ (a.t < b.t ∨ a.t = b.t ∧ a.w < b.w)) := by
  unfold ahd
  by_cases h1 : a.i = b.i
  · by_cases h2 : a.o = b.o
    · by_cases h3 : a.t = b.t
      · simp [h1, h2, h3]
      simp [h1, h2, h3]
    simp [h1, h2]
  simp [h1]
theorem ahd_trans {a b x : Ar} (h1 : ahd a b = false) (h2 : ahd b x = false) : ahd a x = false := by
  rw [Bool.eq_false_iff] at h1 h2 ⊢
  rw [ne_eq, ahd_iff] at h1 h2 ⊢
  omega
def arAt (l : List Ar) (k : Nat) : Ar := l.getD k ⟨0, 0, 0, 0⟩
theorem arAt_of {l : List Ar} {k : Nat} {a : Ar} (h : l[k]? = some a) : arAt l k = a := by simp [arAt, List.getD_eq_getElem?_getD, h]
/-- Pairs stand as they should, up to the k-th. -/
def srtN (l : List Ar) : Nat → Bool
  | 0 => true
  | k + 1 => srtN l k && (l.take k).all fun b => !ahd (arAt l k) b
def disN (l : List Ar) : Nat → Bool
  | 0 => true
  | k + 1 => disN l k && (l.take k).all fun b => !(decide ((arAt l k).i = b.i) && decide ((arAt l k).o = b.o))
/-- Neighbours stand as they should, from the k-th on. -/
def adjN (l : List Ar) : Nat → Bool
  | 0 => true
  | k + 1 => if k + 1 < l.length then (!ahd (arAt l (k + 1)) (arAt l k)) && adjN l k else adjN l k
theorem adj_all {l : List Ar} : ∀ {k : Nat}, adjN l k = true ↔ ∀ i, i < k → i + 1 < l.length → ahd (arAt l (i + 1)) (arAt l i) = false
  | 0 => by simp [adjN]
  | k + 1 => by
    have ih := adj_all (l := l) (k := k)
    simp only [adjN]
    constructor
    · intro h i hi hl
      by_cases e : i = k
      · subst e
        rw [if_pos hl] at h
        simp only [Bool.and_eq_true, Bool.not_eq_true'] at h
        exact h.1
      refine ih.1 ?_ i zT15 hl
      split at h
      · simp only [Bool.and_eq_true] at h; exact h.2
      exact h
    intro h
    have h2 := ih.2 fun i hi hl => h i zT15 hl
    split
    · rename_i hl
      simp only [Bool.and_eq_true, Bool.not_eq_true']
      exact ⟨h k zT15 hl, h2⟩
    exact h2
theorem srt_all {l : List Ar} : ∀ {k : Nat}, k ≤ l.length → (srtN l k = true ↔ ∀ i j, j < i → i < k → ahd (arAt l i) (arAt l j) = false)
  | 0, _ => by simp [srtN]
  | k + 1, hk => by
    have ih := srt_all (l := l) (k := k) zT15
    simp only [srtN, Bool.and_eq_true, ih, List.all_eq_true, Bool.not_eq_true']
    constructor
    · rintro ⟨h1, h2⟩ i j hj hi
      by_cases e : i = k
      · subst e
        refine h2 _ ?_
        have hx : l[j]? = some l[j] := List.getElem?_eq_getElem zT15
        rw [arAt_of hx]
        exact List.mem_of_getElem? (i := j) (by rw [List.getElem?_take_of_lt hj]; exact hx)
      exact h1 i j hj zT15
    intro h
    refine ⟨fun i j hj hi => h i j hj zT15, fun b hb => ?_⟩
    obtain ⟨j, hj⟩ := List.getElem?_of_mem hb
    have hjl := (List.getElem?_eq_some_iff.1 hj).1
    simp at hjl
    rw [List.getElem?_take_of_lt zT15] at hj
    have := h k j zT15 zT15
    rwa [arAt_of hj] at this
theorem adj_srt (l : List Ar) : adjN l l.length = srtN l l.length := by
  rw [Bool.eq_iff_iff, adj_all, srt_all (Nat.le_refl _)]
  constructor
  · intro h i
    induction i with
    | zero => intro j hj; omega
    | succ i ih =>
      intro j hj hi
      by_cases e : j = i
      · subst e; exact h j zT15 hi
      exact ahd_trans (h i zT15 hi) (ih j zT15 zT15)
  intro h i hi hl
  exact h (i + 1) i zT15 hl
theorem adj_end {l : List Ar} : ∀ {k : Nat}, l.length ≤ k + 1 → adjN l k = adjN l (l.length - 1)
  | 0, h => by rw [show l.length - 1 = 0 by omega]
  | k + 1, h => by
    by_cases e : k + 1 = l.length - 1
    · rw [e]
    simp only [adjN, if_neg (show ¬ k + 1 < l.length by omega)]
    exact adj_end zT15
def cntP (p : Int × Int) (l : List Ar) : Nat := (l.filter fun a => decide ((a.i, a.o) = p)).length
theorem cntP_snoc {l : List Ar} {i : Nat} {a : Ar} (h : l[i]? = some a) (p : Int × Int) : cntP p (l.take (i + 1)) = cntP p (l.take i) + if p = (a.i, a.o) then 1 else 0 := by
  rw [take_snoc h]
  unfold cntP
  by_cases e : (a.i, a.o) = p
  · simp [e]
  simp [e, Ne.symm e]
theorem cntP_le (p : Int × Int) (l : List Ar) : cntP p l ≤ l.length := List.length_filter_le _ _
theorem cntP_zero {a : Ar} {l : List Ar} : decide (cntP (a.i, a.o) l = 0) = l.all fun b => !(decide (a.i = b.i) && decide (a.o = b.o)) := by
  rw [Bool.eq_iff_iff, decide_eq_true_iff, List.all_eq_true]
  unfold cntP
  rw [List.length_eq_zero_iff, List.filter_eq_nil_iff]
  constructor
  · intro h b hb
    have := h b hb
    simp only [decide_eq_true_eq, Prod.mk.injEq] at this
    simp only [Bool.not_eq_true', Bool.and_eq_false_iff, decide_eq_false_iff_not]
    by_cases e : a.i = b.i
    · exact .inr fun e2 => this ⟨e.symm, e2.symm⟩
    exact .inl e
  intro h b hb
  have := h b hb
  simp only [decide_eq_true_eq, Prod.mk.injEq]
  rintro ⟨e1, e2⟩
  simp [e1, e2] at this
section
variable {K : Type} [DecidableEq K]
theorem mput_cons (k : K) (u : Int) (l : List (K × Int)) (a : K) (v : Int) : mput ((k, u) :: l) a v = if a = k then (a, v) :: l else (k, u) :: mput l a v := by
  unfold mput
  simp only [mfind]
  by_cases e : a = k
  · simp [e]
  rw [if_neg e, if_neg e, mfind_shift]
  cases mfind l a 0 <;> simp
theorem mget_mput (a : K) (v : Int) (b : K) : ∀ l : List (K × Int), mget (mput l a v) b = if b = a then some v else mget l b
  | [] => by
    have : mput ([] : List (K × Int)) a v = [(a, v)] := rfl
    rw [this, mget_cons]
  | (k, u) :: l => by
    rw [mput_cons]
    by_cases e : a = k
    · subst e
      rw [if_pos rfl, mget_cons, mget_cons]
      split <;> rfl
    rw [if_neg e, mget_cons, mget_mput a v b l, mget_cons]
    by_cases e2 : b = k
    · subst e2
      rw [if_pos rfl, if_neg (Ne.symm e), if_pos rfl]
    rw [if_neg e2, if_neg e2]
theorem mput_len (a : K) (v : Int) : ∀ l : List (K × Int), (mput l a v).length ≤ l.length + 1
  | [] => by simp [mput, mfind]
  | (k, u) :: l => by
    rw [mput_cons]
    have := mput_len a v l
    split <;> simp
    omega
end
/-- The map tells how often each pair has been seen. -/
structure Seen (M : List ((Int × Int) × Int)) (l : List Ar) : Prop where
  cnt : ∀ p, (mget M p).getD 0 = (cntP p l : Int)
  len : M.length ≤ l.length
theorem Seen.nil : Seen [] [] := ⟨fun p => rfl, Nat.le_refl _⟩
theorem Seen.step {M : List ((Int × Int) × Int)} {l : List Ar} {i : Nat} {a : Ar} (h : Seen M (l.take i)) (ha : l[i]? = some a) : Seen (mput M (a.i, a.o) ((cntP (a.i, a.o) (l.take i) : Int) + 1)) (l.take (i + 1)) := by
  refine ⟨fun p => ?_, ?_⟩
  · rw [mget_mput, cntP_snoc ha]
    by_cases e : p = (a.i, a.o)
    · subst e; simp
    rw [if_neg e, if_neg e, h.cnt p]; simp
  have h1 := mput_len (a.i, a.o) ((cntP (a.i, a.o) (l.take i) : Int) + 1) M
  have h2 := h.len
  have h3 := (List.getElem?_eq_some_iff.1 ha).1
  rw [List.length_take] at h2 ⊢
  omega
def fA (a : Ar) : Bool := decide (a.i = a.o)
def fF (a : Ar) : Bool := !(decide (a.i = 0) && decide (a.o = 0))
def fW (a : Ar) : Bool := decide (a.w = 0)
def fP (x : Int) : Bool := decide (x = 0) || decide (x = 1000000001)
def bA (sts : List St) : Bool := sts.all fun s => s.arcs.all fA
def bFl (sts : List St) : Bool := sts.all fun s => s.arcs.all fF
def bPl (sts : List St) : Bool := sts.all fun s => fP s.fin && s.arcs.all fW
def bSo (sts : List St) : Bool := sts.all fun s => srtN s.arcs s.arcs.length
def bDi (sts : List St) : Bool := sts.all fun s => disN s.arcs s.arcs.length
theorem all_snoc {α : Type} {l : List α} {i : Nat} {a : α} (f : α → Bool) (h : l[i]? = some a) : (l.take (i + 1)).all f = ((l.take i).all f && f a) := by rw [take_snoc h]; simp [List.all_append]
theorem dis_snoc {l : List Ar} {i : Nat} {a : Ar} (h : l[i]? = some a) : disN l (i + 1) = (disN l i && decide (cntP (a.i, a.o) (l.take i) = 0)) := by
  rw [cntP_zero]
  simp only [disN, arAt_of h]
theorem ahd_irr (a : Ar) : ahd a a = false := by
  rw [Bool.eq_false_iff, ne_eq, ahd_iff]
  omega
theorem ahd_total {a b : Ar} (h1 : ahd a b = false) (h2 : ahd b a = false) : a = b := by
  rw [Bool.eq_false_iff, ne_eq, ahd_iff] at h1 h2
  obtain ⟨ai, ao, aw, at'⟩ := a
  obtain ⟨bi, bo, bw, bt⟩ := b
  simp only at h1 h2
  obtain rfl : ai = bi := by omega
  obtain rfl : ao = bo := by omega
  obtain rfl : at' = bt := by omega
  obtain rfl : aw = bw := by omega
  rfl
theorem ahd_asym {a b : Ar} (h : ahd a b = true) : ahd b a = false := by
  rw [Bool.eq_false_iff, ne_eq, ahd_iff]
  rw [ahd_iff] at h
  omega
theorem ahd_trans1 {a b x : Ar} (h1 : ahd a b = true) (h2 : ahd b x = true) : ahd a x = true := by
  rw [ahd_iff] at *
  omega
/-- An order without ties. -/
structure Tot (lt : Ar → Ar → Bool) : Prop where
  irr : ∀ a, lt a a = false
  tr : ∀ a b x, lt a b = false → lt b x = false → lt a x = false
  one : ∀ a b, lt a b = false → lt b a = false → a = b
  asy : ∀ a b, lt a b = true → lt b a = false
theorem tot_ahd : Tot ahd := ⟨ahd_irr, fun _ _ _ => ahd_trans, fun _ _ => ahd_total, fun _ _ => ahd_asym⟩
abbrev Sd (lt : Ar → Ar → Bool) (l : List Ar) : Prop := l.Pairwise fun x y => lt y x = false
theorem sd_uniq {lt : Ar → Ar → Bool} (hT : Tot lt) : ∀ {l l' : List Ar}, Sd lt l → Sd lt l' → l.Perm l' → l = l'
  | [], l', _, _, h => (List.Perm.nil_eq h)
  | x :: l, [], _, _, h => by have := h.length_eq; simp at this
  | x :: l, y :: l', h1, h2, h => by
    have a1 := List.pairwise_cons.1 h1
    have a2 := List.pairwise_cons.1 h2
    have hxy : x = y := by
      have hx : x ∈ y :: l' := h.mem_iff.1 zT16
      have hy : y ∈ x :: l := h.mem_iff.2 zT16
      rcases List.mem_cons.1 hx with e | hx
      · exact e
      rcases List.mem_cons.1 hy with e | hy
      · exact e.symm
      exact hT.one _ _ (a2.1 x hx) (a1.1 y hy)
    subst hxy
    rw [sd_uniq hT a1.2 a2.2 (List.Perm.cons_inv h)]
/-- An arc put where it belongs. -/
def plc (a : Ar) : List Ar → List Ar
  | [] => [a]
  | x :: l => if ahd a x = true then a :: x :: l else x :: plc a l
theorem plc_perm (a : Ar) : ∀ l : List Ar, (plc a l).Perm (a :: l)
  | [] => List.Perm.refl _
  | x :: l => by
    unfold plc
    split
    · exact List.Perm.refl _
    exact (List.Perm.cons x (plc_perm a l)).trans (List.Perm.swap a x l)
theorem plc_sd (a : Ar) : ∀ {l : List Ar}, Sd ahd l → Sd ahd (plc a l)
  | [], _ => by simp [plc]
  | x :: l, h => by
    have h1 := List.pairwise_cons.1 h
    unfold plc
    split
    · rename_i hx
      refine List.pairwise_cons.2 ⟨fun y hy => ?_, h⟩
      rcases List.mem_cons.1 hy with rfl | hy
      · exact ahd_asym hx
      exact ahd_trans (h1.1 y hy) (ahd_asym hx)
    rename_i hx
    refine List.pairwise_cons.2 ⟨fun y hy => ?_, plc_sd a h1.2⟩
    rcases List.mem_cons.1 ((plc_perm a l).mem_iff.1 hy) with rfl | hy
    · simpa using hx
    exact h1.1 y hy
theorem plc_lt {a : Ar} {B : List Ar} : ∀ {A : List Ar}, (∃ y ∈ A, ahd a y = true) → plc a (A ++ B) = plc a A ++ B
  | [], h => by obtain ⟨y, hy, _⟩ := h; cases hy
  | x :: A, h => by
    simp only [List.cons_append, plc]
    split
    · simp
    rename_i hx
    obtain ⟨y, hy, hlt⟩ := h
    rcases List.mem_cons.1 hy with rfl | hy
    · exact absurd hlt hx
    rw [plc_lt ⟨y, hy, hlt⟩]; simp
theorem plc_ge {a : Ar} {B : List Ar} : ∀ {A : List Ar}, (∀ y ∈ A, ¬ ahd a y = true) → plc a (A ++ B) = A ++ plc a B
  | [], _ => rfl
  | x :: A, h => by
    simp only [List.cons_append, plc]
    rw [if_neg (h x zT16), plc_ge fun y hy => h y (by simp [hy])]
theorem plc_len (a : Ar) (l : List Ar) : (plc a l).length = l.length + 1 := by
  have := (plc_perm a l).length_eq
  simpa using this
def inO (l : List Ar) : List Ar := l.foldl (fun out a => plc a out) []
theorem inO_snoc {l : List Ar} {i : Nat} {a : Ar} (h : l[i]? = some a) : inO (l.take (i + 1)) = plc a (inO (l.take i)) := by rw [take_snoc h]; simp [inO]
theorem inO_both (l : List Ar) : ∀ out : List Ar, Sd ahd out → Sd ahd (l.foldl (fun out a => plc a out) out) ∧ (l.foldl (fun out a => plc a out) out).Perm (l ++ out) := by
  induction l with
  | nil => intro out h; exact ⟨h, List.Perm.refl _⟩
  | cons a l ih =>
    intro out h
    obtain ⟨h1, h2⟩ := ih (plc a out) (plc_sd a h)
    refine ⟨h1, h2.trans ?_⟩
    exact (List.Perm.append_left l (plc_perm a out)).trans List.perm_middle
theorem inO_sd (l : List Ar) : Sd ahd (inO l) := (inO_both l [] List.Pairwise.nil).1
theorem inO_perm (l : List Ar) : (inO l).Perm l := by
  have := (inO_both l [] List.Pairwise.nil).2
  rwa [List.append_nil] at this
theorem inO_len (l : List Ar) : (inO l).length = l.length := (inO_perm l).length_eq
where
  lstA : Ar → List Ar → List Ar
  | _, [] => []
  | p, b :: l => if b.i = p.i ∧ b.o = p.o ∧ b.t = p.t then lstA b l else b :: lstA b l
instance : Inhabited Ar := ⟨⟨0, 0, 0, 0⟩⟩
def encAr (a : Ar) : List Value := [.int .i64 a.i, .int .i64 a.o, .int .i64 a.w, .int .i64 a.t]
abbrev arV4 (a : Ar) : List V := (arD a).map V.d
/-- What is known of a sort: it leaves the elements in the order that res tells. -/
structure SrtC (P : Program) (f : FuncId) (cf : Ar → Ar → Int) (res : List Ar → List Ar) : Prop where
  run : ∀ (g : FuncId) (cb : Array Value) (blk cap : Nat) (d : Array Ar) (w : World), (∀ args w, (callFunc g args).run P w = .ok (.enter g args) w) → CmpLays P g cb encAr 4 cf blk 0 d.size w → HoldsK encAr 4 w blk 0 d → blk < w.heap.size → d.size < 4611686018427387904 →
    Calls P f #[.slice (some ⟨blk, 0, none⟩) d.size cap, .func (.func g) #[] cb] w fun e w' => e = .returned (.tuple #[]) ∧ ∃ n os, w' = sortWorldK encAr 4 w blk 0 n (res d.toList).toArray os
  none : ∀ (p : Option Addr) (cap : Nat) (fv : Value) (w : World), Calls P f #[.slice p 0 cap, fv] w fun e w' => e = .returned (.tuple #[]) ∧ w' = w
  len : ∀ l, (res l).length = l.length
theorem enc_get (l : List Ar) (j : Nat) (h : j < l.length * 4) : (l.flatMap arV4)[j]? = some (V.d (.p ((encAr l.toArray[j / 4]!)[j % 4]!))) := by
  induction l generalizing j with
  | nil => simp at h
  | cons a l ih =>
    rw [List.flatMap_cons]
    match j, h with
    | 0, _ => rfl
    | 1, _ => rfl
    | 2, _ => rfl
    | 3, _ => rfl
    | j + 4, h =>
      simp only [List.length_cons] at h
      have h2 := ih j zT15
      rw [show (arV4 a ++ l.flatMap arV4)[j + 4]? = (l.flatMap arV4)[j]? from rfl, h2]
      have e1 : (j + 4) / 4 = j / 4 + 1 := by omega
      have e2 : (j + 4) % 4 = j % 4 := by omega
      rw [e1, e2]
      have h3 : j / 4 < l.length := by omega
      simp [h3]
theorem enc_len (l : List Ar) : (l.flatMap arV4).length = l.length * 4 := by
  induction l with
  | nil => rfl
  | cons a l ih => rw [List.flatMap_cons, List.length_append, ih]; simp; omega
section
variable {c : Cx} {s : S} {o : Oper}
theorem st_sort {f gf kf : FuncId} {fn : Func} {code : Code} {nn : Nat} {rs : List ResultVar} {cf : Ar → Ar → Int} {res : List Ar → List Ar} {fx : Operand} {xs : Array Operand} {tys : Array TypeId} {r rk n : Nat} {fl : Bool} {ty : TypeId} {l : List Ar} {rowk : Row} (hf : Is c.P f fn code nn rs) (hS : SrtC c.P f cf res)
    (ho : o.op = .call { callee := .value fx, args := xs, argTypes := tys }) (hfx : s.ev fx = some (.fn f [])) (hargs : xs.toList.map s.ev = [.own r 4 n fl, .fn gf [.ref rk 0]].map some) (hr : fnd s.H r = some ⟨ty, l.flatMap arV4, fl, 4⟩) (hn : l.length = n) (hnb : n ≤ 1000000)
    (hk : fnd s.H rk = some rowk) (hkn : rowk.nil = false) (hkc : rowk.cells[0]? = some (.fn kf [])) (hne : rk ≠ r) (hd : dok s o = true) (eg : ∀ args w, (callFunc gf args).run c.P w = .ok (.enter gf args) w)
    (hcl : ∀ (bk : Nat) (W : World) (a b : Ar), W.cell? ⟨bk, 0, none⟩ = some (.func (.func kf) #[] #[]) → Calls c.P gf #[.agg (encAr a).toArray, .agg (encAr b).toArray, .pointer (some ⟨bk, 0, none⟩)] W fun e w' => e = .returned (.int .i64 (cf a b)) ∧ ∃ q os', w' = grow (W.drewN q) os') :
    Step c o s (fun s' => s' = ({ s with H := (r, ⟨ty, (res l).flatMap arV4, fl, 4⟩) :: s.H } : S).put o.dst (.tup [])) := by
  intro g a w hs K Q hK
  obtain ⟨cs, hfv, hcl0, _⟩ := fn_eval hs hfx
  obtain rfl : cs = [] := by cases cs with | nil => rfl | cons => simp at hcl0
  obtain ⟨hal, hav⟩ := args_eval hs hargs
  obtain ⟨x, y, hxy⟩ : ∃ x y, xs.toList.map a.eval = [x, y] := by
    match h : xs.toList.map a.eval, hal with
    | [x, y], _ => exact ⟨x, y, rfl⟩
  rw [hxy] at hav
  have hx := hav 0 _ x rfl rfl
  have hy := hav 1 _ y rfl rfl
  have hrun : (execOp a.eval o).run c.P w = .ok (.enter f #[x, y]) w := by
    rw [exec_call (caps := []) hf ho hfv, hxy]; rfl
  have hres0 : ∀ w', Sim c g { s with H := (r, ⟨ty, (res l).flatMap arV4, fl, 4⟩) :: s.H } a w' → K (a.put o.dst (.tuple #[])) w' := fun w' h =>
    hK g _ _ w' rfl (h.put o.dst (dok_spec (s := { s with H := (r, ⟨ty, (res l).flatMap arV4, fl, 4⟩) :: s.H }) hd) (.tup [] [] rfl (by intro j u z h1; simp at h1)))
  unfold Oper.wp
  rw [hrun]
  simp only [Oper.upon]
  by_cases hl0 : l = []
  · subst hl0
    have hr0 : res [] = [] := List.length_eq_zero_iff.1 (hS.len [])
    obtain rfl : n = 0 := by simpa using hn.symm
    have hxs : ∃ p cap, x = .slice p 0 cap := by
      cases hx with
      | own => exact ⟨_, _, rfl⟩
      | ownNil => exact ⟨_, _, rfl⟩
    obtain ⟨p, cap, rfl⟩ := hxs
    refine (hS.none p cap y w).mono ?_
    rintro e w' ⟨rfl, rfl⟩
    refine hres0 _ (hs.less ⟨rfl, fun i v h => ⟨v, h, .refl _⟩, fun k row' h => ⟨row', ?_, rfl, rfl, rfl, fun j v hv => ⟨v, hv, .refl _⟩⟩, fun j v h => ⟨v, h, .refl _⟩⟩)
    simp only [fnd] at h
    split at h
    · rename_i e
      simp only [beq_iff_eq] at e
      subst e
      rw [hr0] at h
      rw [hr]; exact h
    exact h
  have hpos : 0 < l.length := List.length_pos_iff.2 hl0
  have hfl : fl = false := by
    cases fl with
    | false => rfl
    | true =>
      have h1 := congrArg List.length (hs.nul r _ hr rfl)
      simp only [enc_len, List.length_nil] at h1
      omega
  subst hfl
  obtain ⟨cap, hx1, hcap⟩ : ∃ cap, x = .slice (some ⟨(g r).1, 0, none⟩) n cap ∧ n ≤ (g r).2 := by
    cases hx with
    | own _ _ _ hn' hc' => exact ⟨_, rfl, hn'⟩
  subst hx1
  obtain ⟨bk, rfl, hbk⟩ : ∃ bk : Nat, y = .func (.func gf) #[] #[.pointer (some ⟨bk, 0, none⟩)] ∧ bk = (g rk).1 := by
    cases hy with
    | fn _ _ cs' hlen' h' =>
      match cs', hlen' with
      | [z], _ =>
        have h2 := h' 0 _ z rfl rfl
        cases h2
        exact ⟨_, rfl, rfl⟩
  obtain ⟨arr, ha, hsz, hc⟩ := hs.obj r _ hr rfl
  simp only at ha hsz hc
  have hsz := hsz zT14
  have hbne : bk ≠ (g r).1 := fun e => hne (hs.inj rk r _ _ hk hkn hr rfl (hbk ▸ e))
  have hbcell : w.cell? ⟨bk, 0, none⟩ = some (.func (.func kf) #[] #[]) := by
    obtain ⟨ak, h1, _, h3⟩ := hs.obj rk _ hk hkn
    obtain ⟨z, h4, h5⟩ := h3 0 _ hkc
    have hz : z = .func (.func kf) #[] #[] := by
      cases h5 with
      | fn _ _ cs' hlen' h' =>
        match cs', hlen' with
        | [], _ => rfl
    rw [hbk]
    simp only [World.cell?, h1, Option.isSome_none, Bool.false_eq_true, if_false]
    rw [h4, hz]
  have hlt : (g r).1 < w.heap.size := (Array.getElem?_eq_some_iff.1 ha).1
  have hH : Sort.HoldsK encAr 4 w (g r).1 0 l.toArray := by
    intro j hj
    rw [Sort.size_flatK] at hj
    have hj' : j < l.length * 4 := by simpa using hj
    obtain ⟨z, h4, h5⟩ := hc j _ (enc_get l j hj')
    have hz : z = (encAr l.toArray[j / 4]!)[j % 4]! := by
      cases h5 with
      | d _ _ h6 => cases h6; rfl
    refine ⟨?_, ?_⟩
    · rw [Sort.get_flatK _ _ _ _ (by simpa using hj')]
      simp only [World.cell?, ha, Option.isSome_none, Bool.false_eq_true, if_false, Nat.zero_add, id]
      rw [h4, hz]
    simp [World.frozen?, ha]
  have hcmp : CmpLays c.P gf #[.pointer (some ⟨bk, 0, none⟩)] encAr 4 cf (g r).1 0 l.toArray.size w := by
    intro m os dk hdk a b
    refine hcl bk _ a b ?_
    rw [← hbcell]
    have hbl : bk < w.heap.size := by
      obtain ⟨ak, h1, _, _⟩ := hs.obj rk _ hk hkn
      rw [hbk]
      exact (Array.getElem?_eq_some_iff.1 h1).1
    refine World.cell?_of_block ?_
    unfold sortWorldK Sort.grow Sort.putRowK Sort.putRow Sort.mapBlock Sort.ahead
    simp only
    rw [Array.getElem?_append_left (by simpa using hbl), Array.getElem?_modify, if_neg (fun e => hbne e.symm)]
  have hn2 : n = l.toArray.size := by simp [hn]
  have key := hS.run gf #[.pointer (some ⟨bk, 0, none⟩)] (g r).1 cap l.toArray w eg hcmp hH hlt zT11
  rw [← hn2] at key
  refine key.mono ?_
  rintro e w' ⟨rfl, m, os, rfl⟩
  refine hres0 _ ?_
  have hrl := hS.len l
  refine Sim.move (w := Sort.putRowK encAr 4 (Sort.ahead w m) (g r).1 0 (res l).toArray) ?_ ?_
  · refine Sim.setRow hs (row := ⟨ty, l.flatMap arV4, false, 4⟩) (row' := ⟨ty, (res l).flatMap arV4, false, 4⟩) (arr' := Sort.putCells id 0 (Sort.flatK encAr 4 (res l).toArray) arr) hr rfl rfl rfl rfl ?_ ?_ ?_ rfl rfl rfl ?_ ?_
    · simp only [Sort.putRowK, Sort.putRow, Sort.mapBlock, Sort.ahead, Array.getElem?_modify, if_true, ha, Option.map_some, Sort.onCells]
    · intro b hb
      simp only [Sort.putRowK, Sort.putRow, Sort.mapBlock, Sort.ahead, Array.getElem?_modify]
      rw [if_neg (fun e => hb e.symm)]
    · simp [Sort.putRowK, Sort.putRow, Sort.mapBlock, Sort.ahead]
    · intro arr0 ty0 h0
      rw [ha] at h0
      simp only [Option.some.injEq, Obj.cells.injEq, and_true] at h0
      obtain ⟨rfl, _⟩ := h0
      simp [Sort.putCells]
    intro j v hv
    simp only at hv
    have hj : j < (res l).length * 4 := by
      rw [← enc_len]
      exact (List.getElem?_eq_some_iff.1 hv).1
    rw [enc_get _ _ hj] at hv
    simp only [Option.some.injEq] at hv
    subst hv
    have hja : j < arr.size := by omega
    refine ⟨_, ?_, .d _ _ (.p _)⟩
    simp only [Sort.putCells, Array.getElem?_mapIdx]
    rw [Array.getElem?_eq_getElem hja, Option.map_some, if_pos zT11, Nat.sub_zero, Sort.get_flatK _ _ _ _ (by simpa using hj)]
    rfl
  exact ⟨rfl, rfl, rfl, by simp [Sort.grow, sortWorldK], fun k hk => by
    unfold sortWorldK Sort.grow
    simp only
    rw [Array.getElem?_append_left hk]⟩
end
/-- Two calls one behind the other: the second works on what the first has made. -/
def Fn2 (P : Program) (f1 f2 : FuncId) (args : List V) (post : V → Prop) : Prop := ∀ (w : World) (out : Nat → Prop) (g : Nat → Nat × Nat) (xs : List Value), (∀ b, out b → b < w.heap.size) → VReps w (fun b => ¬ out b) g args xs →
  Calls P f1 xs.toArray w fun e w1 => ∃ x1, e = .returned x1 ∧ Below w.heap.size w w1 ∧ Calls P f2 #[x1] w1 fun e w2 => ∃ v x, e = .returned x ∧ post v ∧ v.pure ∧ VRep w2 (fun b => ¬ out b) g v x ∧ Below w.heap.size w w2
theorem Fn2.intro {P : Program} {f1 f2 : FuncId} {fn : Func} {code : Code} {n : Nat} {rs : List ResultVar} {args : List V} {post1 : V → List (Nat × Row) → Prop} {post : V → Prop} (h1 : FnO P f1 args post1) (hf : Is P f2 fn code n rs) (hn0 : 1 ≤ n)
    (h : ∀ v H, post1 v H → ∀ w0 out, AW ⟨P, w0, out, [], []⟩ code (QF P rs post) ⟨n, [(0, v)], H, []⟩) : Fn2 P f1 f2 args post := by
  intro w out g xs hout hx
  refine (h1 w out g xs hout hx).mono ?_
  rintro e w1 ⟨v, x1, g', H, rfl, hp, hcl, hO, hv, hb⟩
  refine ⟨x1, rfl, hb, ?_⟩
  refine calls_of_wp hf.func hf.body ?_
  have hs : Sim ⟨P, w, out, [], []⟩ g' ⟨n, [(0, v)], H, []⟩ { tmps := #[x1] ++ Array.replicate (fn.ntmps - 1) undef, defers := [] } w1 := by
    refine ⟨?_, rfl, ?_, hO.nul, hO.obj, by simp, hO.inj, hO.new, hout, hb⟩
    · simp [hf.ntmps]; omega
    intro i u hu
    simp only [fnd] at hu
    split at hu
    · rename_i e
      simp only [beq_iff_eq] at e
      subst e
      simp only [Option.some.injEq] at hu
      subst hu
      exact ⟨x1, by rw [Array.getElem?_append_left zT16]; rfl, hv⟩
    cases hu
  refine wp_mono (h v H hp w out g' _ w1 hs) fun e a' w' hq => ?_
  obtain ⟨g2, s', h2, h3⟩ := hq
  have fin : (∃ vs, resL P s' rs vs ∧ post (tupOf vs) ∧ (tupOf vs).pure) → a'.defers = [] ∧ ∃ v, (results fn a'.tmps).run P w' = .ok v w' ∧ ∃ v_1 x, Ending.returned v = .returned x ∧ post v_1 ∧ v_1.pure ∧ VRep w' (fun b => ¬ out b) g v_1 x ∧ Below w.heap.size w w' := by
    rintro ⟨vs, k1, k2, k3⟩
    obtain ⟨x, k4, k5⟩ := run_results (c := ⟨P, w, out, [], []⟩) hf.results h3 k1
    exact ⟨h3.defers, x, k5, _, x, rfl, k2, k3, (k4.repure k3).mono Cells.rfl (fun b hb _ => hb.1) (fun r _ => rfl), h3.below⟩
  cases e with
  | normal => exact fin h2
  | ret => exact fin h2
  | _ => exact h2.elim
section
variable {c : Cx} {s : S} {Q : Exit → S → Prop} {L : List Oper} {need : Nat → Bool} {l : List (Nat × Bool)} {i j : Nat} {o1 o2 : Oper}
theorem AD2.call2 {f1 f2 : FuncId} {fn1 fn2 : Func} {code1 code2 : Code} {n1 n2 : Nat} {rs1 rs2 : List ResultVar} {args : List V} {post : V → Prop} {fx1 fx2 : Operand} {xs1 : Array Operand} {ts1 ts2 : Array TypeId} {d1 : Nat}
    (hi1 : L[i]? = some o1) (hg1 : o1.guard = none) (hi2 : L[j]? = some o2) (hg2 : o2.guard = none) (hfn : Fn2 c.P f1 f2 args post) (hf1 : Is c.P f1 fn1 code1 n1 rs1) (hf2 : Is c.P f2 fn2 code2 n2 rs2)
    (ho1 : o1.op = .call { callee := .value fx1, args := xs1, argTypes := ts1 }) (hfx1 : s.ev fx1 = some (.fn f1 [])) (hargs : xs1.toList.map s.ev = args.map some) (hd1 : o1.dst = some d1) (hdk : d1 < s.n)
    (ho2 : o2.op = .call { callee := .value fx2, args := #[.tmp d1], argTypes := ts2 }) (hfx2 : (s.put (some d1) .junk).ev fx2 = some (.fn f2 [])) (hd : dok s o2 = true)
    (hN : ∀ v, post v → v.pure → AD2 c L.toArray Q need l ((s.put (some d1) .junk).put o2.dst v)) : AD2 c L.toArray Q need ((i, false) :: (j, false) :: l) s := by
  intro W g a w hs hbW
  have hfx1' : a.eval fx1 = .func (.func f1) #[] ([] : List Value).toArray := by
    have h := hs.ev hfx1
    generalize a.eval fx1 = u at h
    cases h with
    | fn _ _ cs hl _ =>
      obtain rfl : cs = [] := by cases cs with | nil => rfl | cons => simp at hl
      rfl
  have hx : VReps w (fun b => ¬ ¬ qt c s.H g b) g args (xs1.toList.map a.eval) := by
    refine ⟨by simpa using (congrArg List.length hargs).symm, fun j u y hu hy => ?_⟩
    have h1 := congrArg (fun l => l[j]?) hargs
    simp only [List.getElem?_map, hu, Option.map_some] at h1 hy
    cases h2 : xs1.toList[j]? with
    | none => rw [h2] at h1; cases h1
    | some p =>
      rw [h2] at h1 hy
      simp only [Option.map_some, Option.some.injEq] at h1 hy
      subst hy
      exact (hs.ev h1).mono Cells.rfl (fun b hb _ => not_not_intro hb) (fun r _ => rfl)
  have hlow : ∀ b, ¬ qt c s.H g b → b < w.heap.size := by
    intro b hb
    rcases Classical.em (c.out b) with h | h
    · exact Nat.lt_of_lt_of_le (hs.low b h) hs.below.size
    rcases Classical.em (∃ r row, fnd s.H r = some row ∧ row.nil = false ∧ (g r).1 = b) with ⟨r, row, h1, h2, rfl⟩ | h'
    · obtain ⟨arr, h3, _⟩ := hs.obj r row h1 h2
      exact (Array.getElem?_eq_some_iff.1 h3).1
    exact absurd ⟨h, fun r row h1 h2 h3 => h' ⟨r, row, h1, h2, h3⟩⟩ hb
  refine wpOp_of (by simpa using hi1) hg1 ?_
  unfold Oper.wp
  rw [exec_call (caps := []) hf1 ho1 hfx1']
  simp only [Oper.upon, List.append_nil]
  refine (hfn w (fun b => ¬ qt c s.H g b) g _ hlow hx).mono ?_
  rintro e w1 ⟨x1, rfl, hb1, hcall⟩
  refine ⟨fun _ => hbW.trans (hb1.mono hbW.size), ?_⟩
  have hs1 : Sim c g (s.put (some d1) .junk) (a.put o1.dst x1) w1 := by
    rw [hd1]
    exact (hs.move hb1).put (some d1) (fun k hk => by cases hk; exact hdk) (.junk _)
  have hfx2' : (a.put o1.dst x1).eval fx2 = .func (.func f2) #[] ([] : List Value).toArray := by
    have h := hs1.ev hfx2
    generalize (a.put o1.dst x1).eval fx2 = u at h
    cases h with
    | fn _ _ cs hl _ =>
      obtain rfl : cs = [] := by cases cs with | nil => rfl | cons => simp at hl
      rfl
  have hx1 : (a.put o1.dst x1).eval (.tmp d1) = x1 := by
    have hsz := hs.size
    rw [hd1]
    simp [Act.put, Act.eval, hsz, hdk]
  refine wpOp_of (by simpa using hi2) hg2 ?_
  unfold Oper.wp
  rw [exec_call (caps := []) hf2 ho2 hfx2']
  simp only [Oper.upon, List.append_nil, List.map_cons, List.map_nil]
  rw [hx1]
  refine hcall.mono ?_
  rintro e w2 ⟨v, x, rfl, hp, hpu, hv, hb2⟩
  refine ⟨fun _ => hbW.trans (hb2.mono hbW.size), ?_⟩
  refine hN v hp hpu W g _ w2 ?_ (hbW.trans (hb2.mono hbW.size))
  have hs2 : Sim c g (s.put (some d1) .junk) (a.put o1.dst x1) w2 := by
    rw [hd1]
    exact (hs.move hb2).put (some d1) (fun k hk => by cases hk; exact hdk) (.junk _)
  exact hs2.put o2.dst (dok_spec (s := s.put (some d1) .junk) hd) (hv.mono Cells.rfl (fun b hb _ => Classical.not_not.1 hb) (fun _ _ => rfl))
end
def c3 (x y : Int) : Int := if x < y then -1 else if y < x then 1 else 0
def lx4 (a b : Int × Int × Int × Int) : Int := if a.1 < b.1 then -1 else if b.1 < a.1 then 1 else if a.2.1 < b.2.1 then -1 else if b.2.1 < a.2.1 then 1 else if a.2.2.1 < b.2.2.1 then -1 else if b.2.2.1 < a.2.2.1 then 1 else c3 a.2.2.2 b.2.2.2
def cfR (a b : Ar) : Int := lx4 (a.i, a.o, a.t, a.w) (b.i, b.o, b.t, b.w)
theorem cfR_lt (a b : Ar) : decide (cfR a b < 0) = ahd a b := by
  rw [Bool.eq_iff_iff, decide_eq_true_iff, ahd_iff]
  unfold cfR lx4 c3
  simp only
  repeat' split
  all_goals omega
theorem cmp_at (x y : Int) (w : World) : Calls Tryz.prog 70 #[.int .i64 x, .int .i64 y] w fun e w' => e = .returned (.int .i64 (c3 x y)) ∧ w' = w := by
  have nan : ∀ (x : Int) (w : World), Calls Tryz.prog 102 #[.int .i64 x] w fun e w' => e = .returned (.bool false) ∧ w' = w := by
    intro x w
    go_enter Tryz.func102, Tryz.ntmps102
    go_wp2
    go_ret
    exact ⟨by simp, rfl⟩
  unfold c3
  by_cases h1 : x < y
  · rw [if_pos h1]
    go_enter Tryz.func70, Tryz.ntmps70
    go_wp2_with (go_at_call 102; refine (nan _ _).mono ?_; rintro e w1 ⟨rfl, rfl⟩)
    go_ret
    exact ⟨rfl, rfl⟩
  rw [if_neg h1]
  by_cases h2 : y < x
  · rw [if_pos h2]
    go_enter Tryz.func70, Tryz.ntmps70
    go_wp2_with (go_at_call 102; refine (nan _ _).mono ?_; rintro e w1 ⟨rfl, rfl⟩)
    go_ret
    exact ⟨rfl, rfl⟩
  rw [if_neg h2]
  go_enter Tryz.func70, Tryz.ntmps70
  go_wp2_with (go_at_call 102; refine (nan _ _).mono ?_; rintro e w1 ⟨rfl, rfl⟩)
  go_ret
  exact ⟨rfl, rfl⟩
def lexL : List Int → List Int → Int
  | x :: xs, y :: ys => if c3 x y = 0 then lexL xs ys else c3 x y
  | _, _ => 0
theorem c3_zero {x y : Int} (h : c3 x y = 0) : x = y := by
  unfold c3 at h
  split at h
  · omega
  split at h <;> omega
theorem c3_self (x : Int) : c3 x x = 0 := by simp [c3]
theorem lexL_self : ∀ l : List Int, lexL l l = 0
  | [] => rfl
  | x :: l => by rw [lexL, if_pos (c3_self x), lexL_self l]
theorem lexL_at : ∀ {xs ys : List Int} {k : Nat} {x y : Int}, xs.take k = ys.take k → xs[k]? = some x → ys[k]? = some y → c3 x y ≠ 0 → lexL xs ys = c3 x y
  | a :: xs, b :: ys, 0, x, y, _, hx, hy, h => by
    simp at hx hy
    subst hx hy
    rw [lexL, if_neg h]
  | a :: xs, b :: ys, k + 1, x, y, ht, hx, hy, h => by
    simp only [List.take_succ_cons, List.cons.injEq] at ht
    obtain ⟨rfl, ht⟩ := ht
    rw [lexL, if_pos (c3_self a)]
    exact lexL_at ht (by simpa using hx) (by simpa using hy) h
  | [], _, k, x, y, _, hx, _, _ => by simp at hx
  | _ :: _, [], k, x, y, _, _, hy, _ => by simp at hy
def keyL (k : Int × Int × Int × Int) : List Int := [k.1, k.2.1, k.2.2.1, k.2.2.2]
theorem lexL_key (a b : Int × Int × Int × Int) : lexL (keyL a) (keyL b) = lx4 a b := by
  unfold keyL lx4 lexL lexL lexL lexL lexL c3
  repeat' split
  all_goals first | rfl | omega | (exfalso; simp_all; done) | simp_all
def Row4 (w : World) (b : Nat) (l : List Int) : Prop := ∀ (k : Nat) (x : Int), l[k]? = some x → w.cell? ⟨b, k, none⟩ = some (.int .i64 x)
theorem cmps_at (n : Nat) (bx by' : Nat) (xs ys : List Int) (w : World) (hn1 : xs.length = n) (hn2 : ys.length = n) (hn : n ≤ 4) (hx : Row4 w bx xs) (hy : Row4 w by' ys) :
    Calls Tryz.prog 78 #[.slice (some ⟨bx, 0, none⟩) n n, .slice (some ⟨by', 0, none⟩) n n] w fun e w' => e = .returned (.int .i64 (lexL xs ys)) ∧ w' = w := by
  have HX := Lib.hid hx
  have HY := Lib.hid hy
  have H1 := Lib.hid hn1
  have H2 := Lib.hid hn2
  clear hx hy hn1 hn2
  go_enter Tryz.func78, Tryz.ntmps78
  go_wp2_with fail
  go_loopw [11] (fun i wr => ∃ k : Nat, k ≤ n ∧ i = .int .i64 k ∧ xs.take k = ys.take k ∧ wr = w) (fun i _ => n - (intOf i).toNat)
  case atStart => exact ⟨0, Nat.zero_le _, rfl, rfl, rfl⟩
  case round =>
    obtain ⟨k, hk, rfl, ht, rfl⟩ := hrel
    have HT := Lib.hid ht
    clear ht
    by_cases hlt : k < n
    · obtain ⟨x, hx⟩ : ∃ x, xs[k]? = some x := ⟨_, List.getElem?_eq_getElem (by rw [H1.out]; exact hlt)⟩
      obtain ⟨y, hy⟩ : ∃ y, ys[k]? = some y := ⟨_, List.getElem?_eq_getElem (by rw [H2.out]; exact hlt)⟩
      have cx := HX.out k x hx
      have cy := HY.out k y hy
      have Hx := Lib.hid hx
      have Hy := Lib.hid hy
      clear hx hy
      have hcon := fun W => cmp_at x y W
      have hz := fun h : c3 x y = 0 => c3_zero h
      have hne := fun h : c3 x y ≠ 0 => lexL_at HT.out Hx.out Hy.out h
      have Hz := Lib.hid hz
      have Hne := Lib.hid hne
      clear hz hne
      generalize c3 x y = z at hcon Hz Hne
      by_cases hz0 : z = 0
      · have HE := Lib.hid (Hz.out hz0)
        clear Hz Hne
        subst hz0
        go_wp2_with (go_at_call 70; refine (hcon _).mono ?_; rintro e w1 ⟨rfl, rfl⟩)
        go_roundw
        case rel =>
          refine ⟨k + 1, by omega, by go_num, ?_, by first | rfl | trivial⟩
          rw [List.take_add_one, List.take_add_one, Hx.out, Hy.out, HT.out, HE.out]
        case measure => simp [intOf]; omega
      go_wp2_with (go_at_call 70; refine (hcon _).mono ?_; rintro e w1 ⟨rfl, rfl⟩)
      go_ret
      exact ⟨by rw [Hne.out hz0]; rfl, rfl⟩
    go_wp2_with fail
    go_ret
    have e : xs = ys := by
      have h := HT.out
      rwa [List.take_of_length_le (by rw [H1.out]; omega), List.take_of_length_le (by rw [H2.out]; omega)] at h
    exact ⟨by rw [e, lexL_self]; rfl, rfl⟩
abbrev arcV (a : Ar) : Value := .agg #[.int .i64 a.i, .int .i64 a.o, .int .i64 a.w, .int .i64 a.t]
abbrev keyV (k : Int × Int × Int × Int) : Value := .agg #[.int .i64 k.1, .int .i64 k.2.1, .int .i64 k.2.2.1, .int .i64 k.2.2.2]
/-- A key: what it computes, and that it lays two blocks. -/
def KeyAt (P : Program) (f : FuncId) (key : Ar → Int × Int × Int × Int) : Prop := ∀ (a : Ar) (w : World), Calls P f #[arcV a] w fun e w' => e = .returned (keyV (key a)) ∧ ∃ o1 o2, w' = (w.alloc o1).alloc o2
theorem heap_alloc2 (w : World) (o1 o2 : Obj) : ((w.alloc o1).alloc o2).heap[w.heap.size + 1]? = some o2 := by
  show ((w.heap.push o1).push o2)[w.heap.size + 1]? = some o2
  rw [Array.getElem?_push, if_pos zT16]
theorem readKey_at : KeyAt Tryz.prog 39 (fun a => (a.i, a.o, a.t, a.w)) := by
  intro a w
  go_enter Tryz.func39, Tryz.ntmps39
  go_wp2
  (try simp only [Exit.inBlock, Exit.then]); refine bodyPost_ret (results_cell_row rfl _ _ (w.heap.size + 1) 109 #[.int .i64 a.i, .int .i64 a.o, .int .i64 a.t, .int .i64 a.w] (0, 0) _ rfl (heap_alloc2 _ _ _) Tryz.underlying109 rfl zT12) rfl ?_
  exact ⟨rfl, _, _, rfl⟩
def sortArc_ren : Go.Shelf.Ren := ⟨fun | 6 => 37 | 15 => 76 | 14 => 75 | 28 => 115 | 29 => 116 | 20 => 107 | 21 => 108 | 22 => 109 | 23 => 110 | 24 => 111 | 25 => 112 | 26 => 113 | 27 => 114 | 46 => 123 | 47 => 124 | 48 => 125 | 49 => 126 | 50 => 127 | 57 => 142 | n => n, fun | 22 => 33 | 24 => 47 | 25 => 60 | 3 => 3 | 39 => 77 | 0 => 0 | 53 => 122 | 55 => 125 | 4 => 4 | 46 => 159 | 45 => 158 | 50 => 135 | 5 => 5 | 9 => 9 | 66 => 171 | 70 => 175 | 76 => 189 | 77 => 190 | n => n, fun | n => n⟩
theorem sortArc : Go.Proofs.SlLaysF0.n6 Tryz.prog sortArc_ren := {
  mixed := by kernel_rfl
  f6 := ⟨Tryz.f37.name, by decide, Tryz.func37.trans (congrArg some zT12)⟩
  f14 := ⟨Tryz.f75.name, by decide, Tryz.func75.trans (congrArg some zT12)⟩
  f15 := Tryz.func76.trans (congrArg some zT12)
  f20 := ⟨Tryz.f107.name, by decide, Tryz.func107.trans (congrArg some zT12)⟩
  f21 := ⟨Tryz.f108.name, by decide, Tryz.func108.trans (congrArg some zT12)⟩
  f22 := ⟨Tryz.f109.name, by decide, Tryz.func109.trans (congrArg some zT12)⟩
  f23 := ⟨Tryz.f110.name, by decide, Tryz.func110.trans (congrArg some zT12)⟩
  f24 := ⟨Tryz.f111.name, by decide, Tryz.func111.trans (congrArg some zT12)⟩
  f25 := ⟨Tryz.f112.name, by decide, Tryz.func112.trans (congrArg some zT12)⟩
  f26 := ⟨Tryz.f113.name, by decide, Tryz.func113.trans (congrArg some zT12)⟩
  f27 := ⟨Tryz.f114.name, by decide, Tryz.func114.trans (congrArg some zT12)⟩
  f28 := Tryz.func115.trans (congrArg some zT12)
  f29 := Tryz.func116.trans (congrArg some zT12)
  f46 := ⟨Tryz.f123.name, by decide, Tryz.func123.trans (congrArg some zT12)⟩
  f47 := Tryz.func124.trans (congrArg some zT12)
  f48 := Tryz.func125.trans (congrArg some zT12)
  f49 := ⟨Tryz.f126.name, by decide, Tryz.func126.trans (congrArg some zT12)⟩
  f50 := ⟨Tryz.f127.name, by decide, Tryz.func127.trans (congrArg some zT12)⟩
  f57 := ⟨Tryz.f142.name, by decide, Tryz.func142.trans (congrArg some zT12)⟩
  t0 := Tryz.underlying0
  a0 := Tryz.isAgg0
  z0 := Tryz.sizeOf0
  v0 := Tryz.zeroValue0
  t3 := Tryz.underlying3
  a3 := Tryz.isAgg3
  z3 := Tryz.sizeOf3
  v3 := Tryz.zeroValue3
  t4 := Tryz.underlying4
  a4 := Tryz.isAgg4
  z4 := Tryz.sizeOf4
  v4 := Tryz.zeroValue4
  t5 := Tryz.underlying5
  a5 := Tryz.isAgg5
  z5 := Tryz.sizeOf5
  v5 := Tryz.zeroValue5
  t9 := Tryz.underlying9
  a9 := Tryz.isAgg9
  z9 := Tryz.sizeOf9
  v9 := Tryz.zeroValue9
  t22 := Tryz.underlying33
  a22 := Tryz.isAgg33
  z22 := Tryz.sizeOf33
  v22 := Tryz.zeroValue33
  t25 := Tryz.underlying60
  a25 := Tryz.isAgg60
  z25 := Tryz.sizeOf60
  v25 := Tryz.zeroValue60
  t39 := Tryz.underlying77
  a39 := Tryz.isAgg77
  z39 := Tryz.sizeOf77
  v39 := Tryz.zeroValue77
  t45 := Tryz.underlying158
  a45 := Tryz.isAgg158
  z45 := Tryz.sizeOf158
  v45 := Tryz.zeroValue158
  t46 := Tryz.underlying159
  a46 := Tryz.isAgg159
  z46 := Tryz.sizeOf159
  v46 := Tryz.zeroValue159
  t50 := Tryz.underlying135
  a50 := Tryz.isAgg135
  z50 := Tryz.sizeOf135
  v50 := Tryz.zeroValue135
  t53 := Tryz.underlying122
  a53 := Tryz.isAgg122
  z53 := Tryz.sizeOf122
  v53 := Tryz.zeroValue122
  t55 := Tryz.underlying125
  a55 := Tryz.isAgg125
  z55 := Tryz.sizeOf125
  v55 := Tryz.zeroValue125
  t66 := Tryz.underlying171
  a66 := Tryz.isAgg171
  z66 := Tryz.sizeOf171
  v66 := Tryz.zeroValue171
  t70 := Tryz.underlying175
  a70 := Tryz.isAgg175
  z70 := Tryz.sizeOf175
  v70 := Tryz.zeroValue175
  t76 := Tryz.underlying189
  a76 := Tryz.isAgg189
  z76 := Tryz.sizeOf189
  v76 := Tryz.zeroValue189
  t77 := Tryz.underlying190
  a77 := Tryz.isAgg190
  z77 := Tryz.sizeOf190
  v77 := Tryz.zeroValue190 }
theorem enc1 (x : Ar) : ∀ v ∈ encAr x, v.oneCell' = true := by
  intro v hv
  simp only [encAr, List.mem_cons, List.not_mem_nil, or_false] at hv
  rcases hv with rfl | rfl | rfl | rfl <;> rfl
theorem swo_of {lt : Ar → Ar → Bool} (hT : Tot lt) (h2 : ∀ a b x, lt a b = true → lt b x = true → lt a x = true) : SWO lt := ⟨hT.irr, fun a b x => h2 a b x, fun a b x => hT.tr a b x⟩
theorem ltR : ltOf cfR = ahd := by funext a b; exact cfR_lt a b
theorem sort_eq {lt : Ar → Ar → Bool} (hT : Tot lt) {l r : List Ar} (hs : Sd lt r) (hp : r.Perm l) : l.mergeSort (fun x y => !lt y x) = r := by
  refine sd_uniq hT ?_ hs ((List.mergeSort_perm _ _).trans hp.symm)
  have h := List.pairwise_mergeSort (le := fun x y => !lt y x) (fun a b x h1 h2 => by
    simp only [Bool.not_eq_true'] at h1 h2 ⊢
    exact hT.tr _ _ _ h2 h1) (fun a b => by
    cases h : lt b a with
    | false => simp
    | true => simp [hT.asy _ _ h]) l
  exact h.imp fun h => by simpa using h
theorem srtR : SrtC Tryz.prog 37 cfR inO := by
  refine ⟨fun g cb blk cap d w eg hcmp hH hblk hsz => ?_, fun p cap fv w => ?_, inO_len⟩
  · have h := AnyQ.slices_SortFunc_total sortArc 4 Tryz.isAgg47 Tryz.sizeOf47 encAr (fun _ => rfl) enc1 cfR (by rw [ltR]; exact swo_of tot_ahd fun _ _ _ => ahd_trans1) g cb blk 0 cap d w eg hcmp hH hblk hsz (by rw [ltR]; exact fun _ _ => ahd_total)
    refine Calls.mono h ?_
    rintro e w' ⟨rfl, n, os, rfl⟩
    refine ⟨rfl, n, os, ?_⟩
    rw [ltR, sort_eq tot_ahd (inO_sd _) (inO_perm _)]
  exact AnyF.slices_SortFunc_none sortArc p cap fv w
theorem Below.cellTo {w w' : World} (hb : Below w.heap.size w w') {b o : Nat} {v : Value} (h : w.cell? ⟨b, o, none⟩ = some v) : w'.cell? ⟨b, o, none⟩ = some v := (hb.cell (p := ⟨b, o, none⟩) (blt h)).trans h
theorem cell_al {w : World} {b o : Nat} {v : Value} (h : w.cell? ⟨b, o, none⟩ = some v) (x : Obj) : (w.alloc x).cell? ⟨b, o, none⟩ = some v := Below.cellTo (Below.al (Below.refl _ w) x) h
section
variable {P : Program} {ops : Array Oper} {Q : Exit → Act → World → Prop} {md : Region.Mode} {S : World → Prop} {z : Nat}
def NxT (P : Program) (md : Region.Mode) (l : List Oper) (Q : Exit → Act → World → Prop) (S : World → Prop) (z : Nat) (n : Nat) (listed : Array Bool) (a : Act) (w : World) (i : Nat) (oi : Oper) : Prop :=
  ∀ K : Act → World → Prop, Hid (∀ a' w', (i ≠ z → S w') → anyThen P md l.toArray Q S z n (listed.setIfInBounds i true) a' w' → K a' w') →
      if Region.wanted oi (yielded l.toArray a.tmps) = true then Oper.wp P oi a w K Q else K (a.put oi.dst undef) w
theorem region_any_k {P : Program} {Q : Exit → Act → World → Prop} (S : World → Prop) (z : Nat) {id : Nat} {l : List Oper} {a : Act} {w : World} (n : Nat) (hn : l.length = n) (hm : P.follows .mixedOrders = true) (hS : S w.drew)
    (h : ∀ wd, wd = w.drew → S wd → anyThen P .any l.toArray Q S z n (Array.replicate n false) a wd) : (Code.region id l.toArray true).wp P Q a w :=
  region_any S z n hn hm hS (h _ rfl)
theorem any_br2 (i j : Nat) {l : List Oper} {oi oj : Oper} {n : Nat} {listed : Array Bool} {a : Act} {w : World} (hr : Region.ready md l.toArray listed = [i, j]) (hi : l[i]? = some oi) (hj : l[j]? = some oj)
    (h1 : NxT P md l Q S z n listed a w i oi) (h2 : NxT P md l Q S z n listed a w j oj) : anyThen P md l.toArray Q S z (n + 1) listed a w := by
  refine ⟨fun h0 => by rw [hr] at h0; exact absurd h0 zT16, fun k hk => ?_⟩
  rw [hr] at hk
  simp only [List.mem_cons, List.not_mem_nil, or_false] at hk
  rcases hk with rfl | rfl
  · exact wpOp_step (by simpa using hi) fun K hK => h1 K fun a' w' hS hA => hK a' w' ⟨hS, hA⟩
  exact wpOp_step (by simpa using hj) fun K hK => h2 K fun a' w' hS hA => hK a' w' ⟨hS, hA⟩
theorem any_br3 (i j k : Nat) {l : List Oper} {oi oj ok : Oper} {n : Nat} {listed : Array Bool} {a : Act} {w : World} (hr : Region.ready md l.toArray listed = [i, j, k]) (hi : l[i]? = some oi) (hj : l[j]? = some oj) (hk : l[k]? = some ok)
    (h1 : NxT P md l Q S z n listed a w i oi) (h2 : NxT P md l Q S z n listed a w j oj) (h3 : NxT P md l Q S z n listed a w k ok) : anyThen P md l.toArray Q S z (n + 1) listed a w := by
  refine ⟨fun h0 => by rw [hr] at h0; exact absurd h0 zT16, fun x hx => ?_⟩
  rw [hr] at hx
  simp only [List.mem_cons, List.not_mem_nil, or_false] at hx
  rcases hx with rfl | rfl | rfl
  · exact wpOp_step (by simpa using hi) fun K hK => h1 K fun a' w' hS hA => hK a' w' ⟨hS, hA⟩
  · exact wpOp_step (by simpa using hj) fun K hK => h2 K fun a' w' hS hA => hK a' w' ⟨hS, hA⟩
  exact wpOp_step (by simpa using hk) fun K hK => h3 K fun a' w' hS hA => hK a' w' ⟨hS, hA⟩
end
/-- PRINTED by gen/genby.py from here on. -/
theorem row4_al {w : World} {b : Nat} {l : List Int} (h : Row4 w b l) (o : Obj) : Row4 (w.alloc o) b l := fun k x hx => cell_al (h k x hx) o
theorem row4_new (w : World) (b : Nat) (k : Int × Int × Int × Int) (t : TypeId) (f : Nat × Nat) (hb : b = w.heap.size) : Row4 (w.alloc (.cells #[.int .i64 k.1, .int .i64 k.2.1, .int .i64 k.2.2.1, .int .i64 k.2.2.2] t f)) b (keyL k) := by
  subst hb
  intro j x hx
  have hb : (w.alloc (.cells #[.int .i64 k.1, .int .i64 k.2.1, .int .i64 k.2.2.1, .int .i64 k.2.2.2] t f)).heap[w.heap.size]? = some (.cells #[.int .i64 k.1, .int .i64 k.2.1, .int .i64 k.2.2.1, .int .i64 k.2.2.2] t f) := by
    show (w.heap.push _)[w.heap.size]? = _
    simp
  unfold keyL at hx
  simp only [World.cell?, hb, Option.isSome_none, Bool.false_eq_true, if_false]
  match j, hx with
  | 0, hx => simp at hx; subst hx; rfl
  | 1, hx => simp at hx; subst hx; rfl
  | 2, hx => simp at hx; subst hx; rfl
  | 3, hx => simp at hx; subst hx; rfl
  | j + 4, hx => simp at hx
theorem grow_ex (w : World) (A B os : Array Obj) (q n : Nat) : ∃ q' os', (grow ((grow (grow w A) B).drewN q) os).drewN n = grow (w.drewN q') os' :=
  ⟨q + n, A ++ B ++ os, by unfold grow World.drewN; simp [Nat.add_assoc, Array.append_assoc]⟩
/-- How the region of the two calls ends. -/
def ByQ (kf : FuncId) (bk b3 b4 : Nat) (va vb : Value) (ka kb : Int × Int × Int × Int) (w : World) : Exit → Act → World → Prop
  | .normal, a', w' => ∃ b6 b7, a' = { tmps := #[va, vb, .pointer (some ⟨bk, 0, none⟩), .pointer (some ⟨b3, 0, none⟩), .pointer (some ⟨b4, 0, none⟩), .int .i64 0, .pointer (some ⟨b6, 0, none⟩), .pointer (some ⟨b7, 0, none⟩), .func (.func kf) #[] #[], va, keyV ka, .func (.func kf) #[] #[], vb, keyV kb, undef, undef, undef], defers := [] } ∧ Row4 w' b6 (keyL ka) ∧ Row4 w' b7 (keyL kb) ∧ ∃ q os', w' = grow (w.drewN q) os'
  | _, _, _ => False
theorem by_at {kf : FuncId} {key : Ar → Int × Int × Int × Int} (hk : KeyAt Tryz.prog kf key) (ek : ∀ args w, (callFunc kf args).run Tryz.prog w = .ok (.enter kf args) w) (bk : Nat) (a b : Ar) (w : World) (hc : w.cell? ⟨bk, 0, none⟩ = some (.func (.func kf) #[] #[])) :
    Calls Tryz.prog 77 #[arcV a, arcV b, .pointer (some ⟨bk, 0, none⟩)] w fun e w' => e = .returned (.int .i64 (lx4 (key a) (key b))) ∧ ∃ q os', w' = grow (w.drewN q) os' := by
  have hb0 := blt hc
  have hka := fun W => hk a W
  have hkb := fun W => hk b W
  clear hk
  obtain ⟨ka, hka'⟩ : ∃ k, key a = k := ⟨_, rfl⟩
  obtain ⟨kb, hkb'⟩ : ∃ k, key b = k := ⟨_, rfl⟩
  rw [hka', hkb']
  rw [hka'] at hka
  rw [hkb'] at hkb
  clear hka' hkb'
  obtain ⟨ai, ao, aw, at'⟩ := a
  obtain ⟨bi, bo, bw, bt⟩ := b
  obtain ⟨k1, k2, k3, k4⟩ := ka
  obtain ⟨l1, l2, l3, l4⟩ := kb
  simp only [arcV, keyV] at hka hkb ⊢
  go_enter Tryz.func77, Tryz.ntmps77
  go_wp2_with fail
  refine wp_mono (Q := ByQ kf bk w.heap.size (w.heap.size + 1) (.agg #[.int .i64 ai, .int .i64 ao, .int .i64 aw, .int .i64 at']) (.agg #[.int .i64 bi, .int .i64 bo, .int .i64 bw, .int .i64 bt]) (k1, k2, k3, k4) (l1, l2, l3, l4) ((w.alloc (.cells #[.int .i64 ai, .int .i64 ao, .int .i64 aw, .int .i64 at'] 47 (0, 0))).alloc (.cells #[.int .i64 bi, .int .i64 bo, .int .i64 bw, .int .i64 bt] 47 (0, 0)))) ?_ ?_
  · have hA := row4_al (row4_new w _ (ai, ao, aw, at') 47 (0, 0) rfl) (.cells #[.int .i64 bi, .int .i64 bo, .int .i64 bw, .int .i64 bt] 47 (0, 0))
    have hB := row4_new (w.alloc (.cells #[.int .i64 ai, .int .i64 ao, .int .i64 aw, .int .i64 at'] 47 (0, 0))) (w.heap.size + 1) (bi, bo, bw, bt) 47 (0, 0) zT16
    refine region_any_k (fun w' => w'.cell? ⟨bk, 0, none⟩ = some (.func (.func kf) #[] #[]) ∧ w'.cell? ⟨w.heap.size, 0, none⟩ = some (.int .i64 ai) ∧ w'.cell? ⟨w.heap.size, 1, none⟩ = some (.int .i64 ao) ∧ w'.cell? ⟨w.heap.size, 2, none⟩ = some (.int .i64 aw) ∧ w'.cell? ⟨w.heap.size, 3, none⟩ = some (.int .i64 at') ∧ w'.cell? ⟨w.heap.size + 1, 0, none⟩ = some (.int .i64 bi) ∧ w'.cell? ⟨w.heap.size + 1, 1, none⟩ = some (.int .i64 bo) ∧ w'.cell? ⟨w.heap.size + 1, 2, none⟩ = some (.int .i64 bw) ∧ w'.cell? ⟨w.heap.size + 1, 3, none⟩ = some (.int .i64 bt)) 9 10 rfl zT12
      ⟨cell_al (cell_al hc _) _, hA 0 _ rfl, hA 1 _ rfl, hA 2 _ rfl, hA 3 _ rfl, hB 0 _ rfl, hB 1 _ rfl, hB 2 _ rfl, hB 3 _ rfl⟩ (fun wd hwd hS => ?_)
    clear hA hB
    (refine any_take 0 (v := ?_) zT12 rfl rfl zT12 zT12 zT12 (fun _ _ _ h => h) (Or.inl ⟨by rfl, ?_⟩) zT13 ?_; rotate_left; (focus (intro w' hS'; (try dsimp only at hS'); go_split_ands; go_simp; try with_reducible rfl)); try simp only [Act.put, List.setIfInBounds_toArray, List.set_cons_zero, List.set_cons_succ])
    (refine any_take 1 (v := ?_) zT12 rfl rfl zT12 zT12 zT12 (fun _ _ _ h => h) (Or.inl ⟨by rfl, ?_⟩) zT13 ?_; rotate_left; (focus (intro w' hS'; (try dsimp only at hS'); go_split_ands; go_simp; try with_reducible rfl)); try simp only [Act.put, List.setIfInBounds_toArray, List.set_cons_zero, List.set_cons_succ])
    (refine any_take 3 (v := ?_) zT12 rfl rfl zT12 zT12 zT12 (fun _ _ _ h => h) (Or.inl ⟨by rfl, ?_⟩) zT13 ?_; rotate_left; (focus (intro w' hS'; (try dsimp only at hS'); go_split_ands; go_simp; try with_reducible rfl)); try simp only [Act.put, List.setIfInBounds_toArray, List.set_cons_zero, List.set_cons_succ])
    (refine any_take 4 (v := ?_) zT12 rfl rfl zT12 zT12 zT12 (fun _ _ _ h => h) (Or.inl ⟨by rfl, ?_⟩) zT13 ?_; rotate_left; (focus (intro w' hS'; (try dsimp only at hS'); go_split_ands; go_simp; try with_reducible rfl)); try simp only [Act.put, List.setIfInBounds_toArray, List.set_cons_zero, List.set_cons_succ])
    have HW := hS
    have HWD := Lib.hid hwd
    clear hwd
    refine any_br3 2 6 7 zT12 rfl rfl rfl (fun K hK => ?_) (fun K hK => ?_) (fun K hK => ?_)
    · rw [if_pos (by rfl)]
      go_wp2_with (go_at_fn kf; refine (hka _).mono ?_; rintro e w1 ⟨rfl, o1, o2, rfl⟩)
      refine any_hand hK (fun _ => ⟨cell_al (cell_al hS.1 _) _, cell_al (cell_al hS.2.1 _) _, cell_al (cell_al hS.2.2.1 _) _, cell_al (cell_al hS.2.2.2.1 _) _, cell_al (cell_al hS.2.2.2.2.1 _) _, cell_al (cell_al hS.2.2.2.2.2.1 _) _, cell_al (cell_al hS.2.2.2.2.2.2.1 _) _, cell_al (cell_al hS.2.2.2.2.2.2.2.1 _) _, cell_al (cell_al hS.2.2.2.2.2.2.2.2 _) _⟩) (fun hx => ?_)
      have hS2 := hx zT14
      clear hx hK K hS
      have hS := hS2
      clear hS2
      refine any_br3 5 6 7 zT12 rfl rfl rfl (fun K hK => ?_) (fun K hK => ?_) (fun K hK => ?_)
      · rw [if_pos (by rfl)]
        go_wp2_with (go_at_fn kf; refine (hkb _).mono ?_; rintro e w1 ⟨rfl, o1, o2, rfl⟩)
        refine any_hand hK (fun _ => ⟨cell_al (cell_al hS.1 _) _, cell_al (cell_al hS.2.1 _) _, cell_al (cell_al hS.2.2.1 _) _, cell_al (cell_al hS.2.2.2.1 _) _, cell_al (cell_al hS.2.2.2.2.1 _) _, cell_al (cell_al hS.2.2.2.2.2.1 _) _, cell_al (cell_al hS.2.2.2.2.2.2.1 _) _, cell_al (cell_al hS.2.2.2.2.2.2.2.1 _) _, cell_al (cell_al hS.2.2.2.2.2.2.2.2 _) _⟩) (fun hx => ?_)
        have hS2 := hx zT14
        clear hx hK K hS
        have hS := hS2
        clear hS2
        refine any_br2 6 7 zT12 rfl rfl (fun K hK => ?_) (fun K hK => ?_)
        · rw [if_pos (by rfl)]
          go_simp
          refine any_hand hK (fun _ => ⟨cell_al hS.1 _, cell_al hS.2.1 _, cell_al hS.2.2.1 _, cell_al hS.2.2.2.1 _, cell_al hS.2.2.2.2.1 _, cell_al hS.2.2.2.2.2.1 _, cell_al hS.2.2.2.2.2.2.1 _, cell_al hS.2.2.2.2.2.2.2.1 _, cell_al hS.2.2.2.2.2.2.2.2 _⟩) (fun hx => ?_)
          have hS2 := hx zT14
          clear hx hK K hS
          have hS := hS2
          clear hS2
          refine any_one 7 zT12 rfl (fun K hK => ?_)
          rw [if_pos (by rfl)]
          go_simp
          refine any_hand hK (fun _ => ⟨cell_al hS.1 _, cell_al hS.2.1 _, cell_al hS.2.2.1 _, cell_al hS.2.2.2.1 _, cell_al hS.2.2.2.2.1 _, cell_al hS.2.2.2.2.2.1 _, cell_al hS.2.2.2.2.2.2.1 _, cell_al hS.2.2.2.2.2.2.2.1 _, cell_al hS.2.2.2.2.2.2.2.2 _⟩) (fun hx => ?_)
          have hS2 := hx zT14
          clear hx hK K hS
          have hS := hS2
          clear hS2
          refine any_one 8 zT12 rfl (fun K hK => ?_)
          rw [if_pos (by rfl)]
          go_simp
          refine any_hand hK (fun _ => ⟨by repeat (first | exact HW.1 | refine cell_al ?_ _), by repeat (first | exact HW.2.1 | refine cell_al ?_ _), by repeat (first | exact HW.2.2.1 | refine cell_al ?_ _), by repeat (first | exact HW.2.2.2.1 | refine cell_al ?_ _), by repeat (first | exact HW.2.2.2.2.1 | refine cell_al ?_ _), by repeat (first | exact HW.2.2.2.2.2.1 | refine cell_al ?_ _), by repeat (first | exact HW.2.2.2.2.2.2.1 | refine cell_al ?_ _), by repeat (first | exact HW.2.2.2.2.2.2.2.1 | refine cell_al ?_ _), by repeat (first | exact HW.2.2.2.2.2.2.2.2 | refine cell_al ?_ _)⟩) (fun hx => ?_)
          clear hx hK K hS
          refine any_one 9 zT12 rfl (fun K hK => ?_)
          rw [if_pos (by rfl)]
          go_simp
          refine any_hand hK (fun h => absurd rfl h) (fun hx => ?_)
          clear hx hK K
          refine any_done zT12 ?_
          exact ⟨_, _, rfl, (by repeat (first | exact row4_new _ _ (k1, k2, k3, k4) _ _ zT16 | refine row4_al ?_ _)), (by repeat (first | exact row4_new _ _ (l1, l2, l3, l4) _ _ zT16 | refine row4_al ?_ _)), 1, _, (by rw [HWD.out]; (repeat rw [alloc_eq_grow]); (repeat rw [grow_grow]); rfl)⟩
        rw [if_pos (by rfl)]
        go_simp
        refine any_hand hK (fun _ => ⟨cell_al hS.1 _, cell_al hS.2.1 _, cell_al hS.2.2.1 _, cell_al hS.2.2.2.1 _, cell_al hS.2.2.2.2.1 _, cell_al hS.2.2.2.2.2.1 _, cell_al hS.2.2.2.2.2.2.1 _, cell_al hS.2.2.2.2.2.2.2.1 _, cell_al hS.2.2.2.2.2.2.2.2 _⟩) (fun hx => ?_)
        have hS2 := hx zT14
        clear hx hK K hS
        have hS := hS2
        clear hS2
        refine any_one 6 zT12 rfl (fun K hK => ?_)
        rw [if_pos (by rfl)]
        go_simp
        refine any_hand hK (fun _ => ⟨cell_al hS.1 _, cell_al hS.2.1 _, cell_al hS.2.2.1 _, cell_al hS.2.2.2.1 _, cell_al hS.2.2.2.2.1 _, cell_al hS.2.2.2.2.2.1 _, cell_al hS.2.2.2.2.2.2.1 _, cell_al hS.2.2.2.2.2.2.2.1 _, cell_al hS.2.2.2.2.2.2.2.2 _⟩) (fun hx => ?_)
        have hS2 := hx zT14
        clear hx hK K hS
        have hS := hS2
        clear hS2
        refine any_one 8 zT12 rfl (fun K hK => ?_)
        rw [if_pos (by rfl)]
        go_simp
        refine any_hand hK (fun _ => ⟨by repeat (first | exact HW.1 | refine cell_al ?_ _), by repeat (first | exact HW.2.1 | refine cell_al ?_ _), by repeat (first | exact HW.2.2.1 | refine cell_al ?_ _), by repeat (first | exact HW.2.2.2.1 | refine cell_al ?_ _), by repeat (first | exact HW.2.2.2.2.1 | refine cell_al ?_ _), by repeat (first | exact HW.2.2.2.2.2.1 | refine cell_al ?_ _), by repeat (first | exact HW.2.2.2.2.2.2.1 | refine cell_al ?_ _), by repeat (first | exact HW.2.2.2.2.2.2.2.1 | refine cell_al ?_ _), by repeat (first | exact HW.2.2.2.2.2.2.2.2 | refine cell_al ?_ _)⟩) (fun hx => ?_)
        clear hx hK K hS
        refine any_one 9 zT12 rfl (fun K hK => ?_)
        rw [if_pos (by rfl)]
        go_simp
        refine any_hand hK (fun h => absurd rfl h) (fun hx => ?_)
        clear hx hK K
        refine any_done zT12 ?_
        exact ⟨_, _, rfl, (by repeat (first | exact row4_new _ _ (k1, k2, k3, k4) _ _ zT16 | refine row4_al ?_ _)), (by repeat (first | exact row4_new _ _ (l1, l2, l3, l4) _ _ zT16 | refine row4_al ?_ _)), 1, _, (by rw [HWD.out]; (repeat rw [alloc_eq_grow]); (repeat rw [grow_grow]); rfl)⟩
      · rw [if_pos (by rfl)]
        go_simp
        refine any_hand hK (fun _ => ⟨cell_al hS.1 _, cell_al hS.2.1 _, cell_al hS.2.2.1 _, cell_al hS.2.2.2.1 _, cell_al hS.2.2.2.2.1 _, cell_al hS.2.2.2.2.2.1 _, cell_al hS.2.2.2.2.2.2.1 _, cell_al hS.2.2.2.2.2.2.2.1 _, cell_al hS.2.2.2.2.2.2.2.2 _⟩) (fun hx => ?_)
        have hS2 := hx zT14
        clear hx hK K hS
        have hS := hS2
        clear hS2
        refine any_br2 5 7 zT12 rfl rfl (fun K hK => ?_) (fun K hK => ?_)
        · rw [if_pos (by rfl)]
          go_wp2_with (go_at_fn kf; refine (hkb _).mono ?_; rintro e w1 ⟨rfl, o1, o2, rfl⟩)
          refine any_hand hK (fun _ => ⟨cell_al (cell_al hS.1 _) _, cell_al (cell_al hS.2.1 _) _, cell_al (cell_al hS.2.2.1 _) _, cell_al (cell_al hS.2.2.2.1 _) _, cell_al (cell_al hS.2.2.2.2.1 _) _, cell_al (cell_al hS.2.2.2.2.2.1 _) _, cell_al (cell_al hS.2.2.2.2.2.2.1 _) _, cell_al (cell_al hS.2.2.2.2.2.2.2.1 _) _, cell_al (cell_al hS.2.2.2.2.2.2.2.2 _) _⟩) (fun hx => ?_)
          have hS2 := hx zT14
          clear hx hK K hS
          have hS := hS2
          clear hS2
          refine any_one 7 zT12 rfl (fun K hK => ?_)
          rw [if_pos (by rfl)]
          go_simp
          refine any_hand hK (fun _ => ⟨cell_al hS.1 _, cell_al hS.2.1 _, cell_al hS.2.2.1 _, cell_al hS.2.2.2.1 _, cell_al hS.2.2.2.2.1 _, cell_al hS.2.2.2.2.2.1 _, cell_al hS.2.2.2.2.2.2.1 _, cell_al hS.2.2.2.2.2.2.2.1 _, cell_al hS.2.2.2.2.2.2.2.2 _⟩) (fun hx => ?_)
          have hS2 := hx zT14
          clear hx hK K hS
          have hS := hS2
          clear hS2
          refine any_one 8 zT12 rfl (fun K hK => ?_)
          rw [if_pos (by rfl)]
          go_simp
          refine any_hand hK (fun _ => ⟨by repeat (first | exact HW.1 | refine cell_al ?_ _), by repeat (first | exact HW.2.1 | refine cell_al ?_ _), by repeat (first | exact HW.2.2.1 | refine cell_al ?_ _), by repeat (first | exact HW.2.2.2.1 | refine cell_al ?_ _), by repeat (first | exact HW.2.2.2.2.1 | refine cell_al ?_ _), by repeat (first | exact HW.2.2.2.2.2.1 | refine cell_al ?_ _), by repeat (first | exact HW.2.2.2.2.2.2.1 | refine cell_al ?_ _), by repeat (first | exact HW.2.2.2.2.2.2.2.1 | refine cell_al ?_ _), by repeat (first | exact HW.2.2.2.2.2.2.2.2 | refine cell_al ?_ _)⟩) (fun hx => ?_)
          clear hx hK K hS
          refine any_one 9 zT12 rfl (fun K hK => ?_)
          rw [if_pos (by rfl)]
          go_simp
          refine any_hand hK (fun h => absurd rfl h) (fun hx => ?_)
          clear hx hK K
          refine any_done zT12 ?_
          exact ⟨_, _, rfl, (by repeat (first | exact row4_new _ _ (k1, k2, k3, k4) _ _ zT16 | refine row4_al ?_ _)), (by repeat (first | exact row4_new _ _ (l1, l2, l3, l4) _ _ zT16 | refine row4_al ?_ _)), 1, _, (by rw [HWD.out]; (repeat rw [alloc_eq_grow]); (repeat rw [grow_grow]); rfl)⟩
        rw [if_pos (by rfl)]
        go_simp
        refine any_hand hK (fun _ => ⟨cell_al hS.1 _, cell_al hS.2.1 _, cell_al hS.2.2.1 _, cell_al hS.2.2.2.1 _, cell_al hS.2.2.2.2.1 _, cell_al hS.2.2.2.2.2.1 _, cell_al hS.2.2.2.2.2.2.1 _, cell_al hS.2.2.2.2.2.2.2.1 _, cell_al hS.2.2.2.2.2.2.2.2 _⟩) (fun hx => ?_)
        have hS2 := hx zT14
        clear hx hK K hS
        have hS := hS2
        clear hS2
        refine any_one 5 zT12 rfl (fun K hK => ?_)
        rw [if_pos (by rfl)]
        go_wp2_with (go_at_fn kf; refine (hkb _).mono ?_; rintro e w1 ⟨rfl, o1, o2, rfl⟩)
        refine any_hand hK (fun _ => ⟨cell_al (cell_al hS.1 _) _, cell_al (cell_al hS.2.1 _) _, cell_al (cell_al hS.2.2.1 _) _, cell_al (cell_al hS.2.2.2.1 _) _, cell_al (cell_al hS.2.2.2.2.1 _) _, cell_al (cell_al hS.2.2.2.2.2.1 _) _, cell_al (cell_al hS.2.2.2.2.2.2.1 _) _, cell_al (cell_al hS.2.2.2.2.2.2.2.1 _) _, cell_al (cell_al hS.2.2.2.2.2.2.2.2 _) _⟩) (fun hx => ?_)
        have hS2 := hx zT14
        clear hx hK K hS
        have hS := hS2
        clear hS2
        refine any_one 8 zT12 rfl (fun K hK => ?_)
        rw [if_pos (by rfl)]
        go_simp
        refine any_hand hK (fun _ => ⟨by repeat (first | exact HW.1 | refine cell_al ?_ _), by repeat (first | exact HW.2.1 | refine cell_al ?_ _), by repeat (first | exact HW.2.2.1 | refine cell_al ?_ _), by repeat (first | exact HW.2.2.2.1 | refine cell_al ?_ _), by repeat (first | exact HW.2.2.2.2.1 | refine cell_al ?_ _), by repeat (first | exact HW.2.2.2.2.2.1 | refine cell_al ?_ _), by repeat (first | exact HW.2.2.2.2.2.2.1 | refine cell_al ?_ _), by repeat (first | exact HW.2.2.2.2.2.2.2.1 | refine cell_al ?_ _), by repeat (first | exact HW.2.2.2.2.2.2.2.2 | refine cell_al ?_ _)⟩) (fun hx => ?_)
        clear hx hK K hS
        refine any_one 9 zT12 rfl (fun K hK => ?_)
        rw [if_pos (by rfl)]
        go_simp
        refine any_hand hK (fun h => absurd rfl h) (fun hx => ?_)
        clear hx hK K
        refine any_done zT12 ?_
        exact ⟨_, _, rfl, (by repeat (first | exact row4_new _ _ (k1, k2, k3, k4) _ _ zT16 | refine row4_al ?_ _)), (by repeat (first | exact row4_new _ _ (l1, l2, l3, l4) _ _ zT16 | refine row4_al ?_ _)), 1, _, (by rw [HWD.out]; (repeat rw [alloc_eq_grow]); (repeat rw [grow_grow]); rfl)⟩
      rw [if_pos (by rfl)]
      go_simp
      refine any_hand hK (fun _ => ⟨cell_al hS.1 _, cell_al hS.2.1 _, cell_al hS.2.2.1 _, cell_al hS.2.2.2.1 _, cell_al hS.2.2.2.2.1 _, cell_al hS.2.2.2.2.2.1 _, cell_al hS.2.2.2.2.2.2.1 _, cell_al hS.2.2.2.2.2.2.2.1 _, cell_al hS.2.2.2.2.2.2.2.2 _⟩) (fun hx => ?_)
      have hS2 := hx zT14
      clear hx hK K hS
      have hS := hS2
      clear hS2
      refine any_br2 5 6 zT12 rfl rfl (fun K hK => ?_) (fun K hK => ?_)
      · rw [if_pos (by rfl)]
        go_wp2_with (go_at_fn kf; refine (hkb _).mono ?_; rintro e w1 ⟨rfl, o1, o2, rfl⟩)
        refine any_hand hK (fun _ => ⟨cell_al (cell_al hS.1 _) _, cell_al (cell_al hS.2.1 _) _, cell_al (cell_al hS.2.2.1 _) _, cell_al (cell_al hS.2.2.2.1 _) _, cell_al (cell_al hS.2.2.2.2.1 _) _, cell_al (cell_al hS.2.2.2.2.2.1 _) _, cell_al (cell_al hS.2.2.2.2.2.2.1 _) _, cell_al (cell_al hS.2.2.2.2.2.2.2.1 _) _, cell_al (cell_al hS.2.2.2.2.2.2.2.2 _) _⟩) (fun hx => ?_)
        have hS2 := hx zT14
        clear hx hK K hS
        have hS := hS2
        clear hS2
        refine any_one 6 zT12 rfl (fun K hK => ?_)
        rw [if_pos (by rfl)]
        go_simp
        refine any_hand hK (fun _ => ⟨cell_al hS.1 _, cell_al hS.2.1 _, cell_al hS.2.2.1 _, cell_al hS.2.2.2.1 _, cell_al hS.2.2.2.2.1 _, cell_al hS.2.2.2.2.2.1 _, cell_al hS.2.2.2.2.2.2.1 _, cell_al hS.2.2.2.2.2.2.2.1 _, cell_al hS.2.2.2.2.2.2.2.2 _⟩) (fun hx => ?_)
        have hS2 := hx zT14
        clear hx hK K hS
        have hS := hS2
        clear hS2
        refine any_one 8 zT12 rfl (fun K hK => ?_)
        rw [if_pos (by rfl)]
        go_simp
        refine any_hand hK (fun _ => ⟨by repeat (first | exact HW.1 | refine cell_al ?_ _), by repeat (first | exact HW.2.1 | refine cell_al ?_ _), by repeat (first | exact HW.2.2.1 | refine cell_al ?_ _), by repeat (first | exact HW.2.2.2.1 | refine cell_al ?_ _), by repeat (first | exact HW.2.2.2.2.1 | refine cell_al ?_ _), by repeat (first | exact HW.2.2.2.2.2.1 | refine cell_al ?_ _), by repeat (first | exact HW.2.2.2.2.2.2.1 | refine cell_al ?_ _), by repeat (first | exact HW.2.2.2.2.2.2.2.1 | refine cell_al ?_ _), by repeat (first | exact HW.2.2.2.2.2.2.2.2 | refine cell_al ?_ _)⟩) (fun hx => ?_)
        clear hx hK K hS
        refine any_one 9 zT12 rfl (fun K hK => ?_)
        rw [if_pos (by rfl)]
        go_simp
        refine any_hand hK (fun h => absurd rfl h) (fun hx => ?_)
        clear hx hK K
        refine any_done zT12 ?_
        exact ⟨_, _, rfl, (by repeat (first | exact row4_new _ _ (k1, k2, k3, k4) _ _ zT16 | refine row4_al ?_ _)), (by repeat (first | exact row4_new _ _ (l1, l2, l3, l4) _ _ zT16 | refine row4_al ?_ _)), 1, _, (by rw [HWD.out]; (repeat rw [alloc_eq_grow]); (repeat rw [grow_grow]); rfl)⟩
      rw [if_pos (by rfl)]
      go_simp
      refine any_hand hK (fun _ => ⟨cell_al hS.1 _, cell_al hS.2.1 _, cell_al hS.2.2.1 _, cell_al hS.2.2.2.1 _, cell_al hS.2.2.2.2.1 _, cell_al hS.2.2.2.2.2.1 _, cell_al hS.2.2.2.2.2.2.1 _, cell_al hS.2.2.2.2.2.2.2.1 _, cell_al hS.2.2.2.2.2.2.2.2 _⟩) (fun hx => ?_)
      have hS2 := hx zT14
      clear hx hK K hS
      have hS := hS2
      clear hS2
      refine any_one 5 zT12 rfl (fun K hK => ?_)
      rw [if_pos (by rfl)]
      go_wp2_with (go_at_fn kf; refine (hkb _).mono ?_; rintro e w1 ⟨rfl, o1, o2, rfl⟩)
      refine any_hand hK (fun _ => ⟨cell_al (cell_al hS.1 _) _, cell_al (cell_al hS.2.1 _) _, cell_al (cell_al hS.2.2.1 _) _, cell_al (cell_al hS.2.2.2.1 _) _, cell_al (cell_al hS.2.2.2.2.1 _) _, cell_al (cell_al hS.2.2.2.2.2.1 _) _, cell_al (cell_al hS.2.2.2.2.2.2.1 _) _, cell_al (cell_al hS.2.2.2.2.2.2.2.1 _) _, cell_al (cell_al hS.2.2.2.2.2.2.2.2 _) _⟩) (fun hx => ?_)
      have hS2 := hx zT14
      clear hx hK K hS
      have hS := hS2
      clear hS2
      refine any_one 8 zT12 rfl (fun K hK => ?_)
      rw [if_pos (by rfl)]
      go_simp
      refine any_hand hK (fun _ => ⟨by repeat (first | exact HW.1 | refine cell_al ?_ _), by repeat (first | exact HW.2.1 | refine cell_al ?_ _), by repeat (first | exact HW.2.2.1 | refine cell_al ?_ _), by repeat (first | exact HW.2.2.2.1 | refine cell_al ?_ _), by repeat (first | exact HW.2.2.2.2.1 | refine cell_al ?_ _), by repeat (first | exact HW.2.2.2.2.2.1 | refine cell_al ?_ _), by repeat (first | exact HW.2.2.2.2.2.2.1 | refine cell_al ?_ _), by repeat (first | exact HW.2.2.2.2.2.2.2.1 | refine cell_al ?_ _), by repeat (first | exact HW.2.2.2.2.2.2.2.2 | refine cell_al ?_ _)⟩) (fun hx => ?_)
      clear hx hK K hS
      refine any_one 9 zT12 rfl (fun K hK => ?_)
      rw [if_pos (by rfl)]
      go_simp
      refine any_hand hK (fun h => absurd rfl h) (fun hx => ?_)
      clear hx hK K
      refine any_done zT12 ?_
      exact ⟨_, _, rfl, (by repeat (first | exact row4_new _ _ (k1, k2, k3, k4) _ _ zT16 | refine row4_al ?_ _)), (by repeat (first | exact row4_new _ _ (l1, l2, l3, l4) _ _ zT16 | refine row4_al ?_ _)), 1, _, (by rw [HWD.out]; (repeat rw [alloc_eq_grow]); (repeat rw [grow_grow]); rfl)⟩
    · rw [if_pos (by rfl)]
      go_simp
      refine any_hand hK (fun _ => ⟨cell_al hS.1 _, cell_al hS.2.1 _, cell_al hS.2.2.1 _, cell_al hS.2.2.2.1 _, cell_al hS.2.2.2.2.1 _, cell_al hS.2.2.2.2.2.1 _, cell_al hS.2.2.2.2.2.2.1 _, cell_al hS.2.2.2.2.2.2.2.1 _, cell_al hS.2.2.2.2.2.2.2.2 _⟩) (fun hx => ?_)
      have hS2 := hx zT14
      clear hx hK K hS
      have hS := hS2
      clear hS2
      refine any_br2 2 7 zT12 rfl rfl (fun K hK => ?_) (fun K hK => ?_)
      · rw [if_pos (by rfl)]
        go_wp2_with (go_at_fn kf; refine (hka _).mono ?_; rintro e w1 ⟨rfl, o1, o2, rfl⟩)
        refine any_hand hK (fun _ => ⟨cell_al (cell_al hS.1 _) _, cell_al (cell_al hS.2.1 _) _, cell_al (cell_al hS.2.2.1 _) _, cell_al (cell_al hS.2.2.2.1 _) _, cell_al (cell_al hS.2.2.2.2.1 _) _, cell_al (cell_al hS.2.2.2.2.2.1 _) _, cell_al (cell_al hS.2.2.2.2.2.2.1 _) _, cell_al (cell_al hS.2.2.2.2.2.2.2.1 _) _, cell_al (cell_al hS.2.2.2.2.2.2.2.2 _) _⟩) (fun hx => ?_)
        have hS2 := hx zT14
        clear hx hK K hS
        have hS := hS2
        clear hS2
        refine any_br2 5 7 zT12 rfl rfl (fun K hK => ?_) (fun K hK => ?_)
        · rw [if_pos (by rfl)]
          go_wp2_with (go_at_fn kf; refine (hkb _).mono ?_; rintro e w1 ⟨rfl, o1, o2, rfl⟩)
          refine any_hand hK (fun _ => ⟨cell_al (cell_al hS.1 _) _, cell_al (cell_al hS.2.1 _) _, cell_al (cell_al hS.2.2.1 _) _, cell_al (cell_al hS.2.2.2.1 _) _, cell_al (cell_al hS.2.2.2.2.1 _) _, cell_al (cell_al hS.2.2.2.2.2.1 _) _, cell_al (cell_al hS.2.2.2.2.2.2.1 _) _, cell_al (cell_al hS.2.2.2.2.2.2.2.1 _) _, cell_al (cell_al hS.2.2.2.2.2.2.2.2 _) _⟩) (fun hx => ?_)
          have hS2 := hx zT14
          clear hx hK K hS
          have hS := hS2
          clear hS2
          refine any_one 7 zT12 rfl (fun K hK => ?_)
          rw [if_pos (by rfl)]
          go_simp
          refine any_hand hK (fun _ => ⟨cell_al hS.1 _, cell_al hS.2.1 _, cell_al hS.2.2.1 _, cell_al hS.2.2.2.1 _, cell_al hS.2.2.2.2.1 _, cell_al hS.2.2.2.2.2.1 _, cell_al hS.2.2.2.2.2.2.1 _, cell_al hS.2.2.2.2.2.2.2.1 _, cell_al hS.2.2.2.2.2.2.2.2 _⟩) (fun hx => ?_)
          have hS2 := hx zT14
          clear hx hK K hS
          have hS := hS2
          clear hS2
          refine any_one 8 zT12 rfl (fun K hK => ?_)
          rw [if_pos (by rfl)]
          go_simp
          refine any_hand hK (fun _ => ⟨by repeat (first | exact HW.1 | refine cell_al ?_ _), by repeat (first | exact HW.2.1 | refine cell_al ?_ _), by repeat (first | exact HW.2.2.1 | refine cell_al ?_ _), by repeat (first | exact HW.2.2.2.1 | refine cell_al ?_ _), by repeat (first | exact HW.2.2.2.2.1 | refine cell_al ?_ _), by repeat (first | exact HW.2.2.2.2.2.1 | refine cell_al ?_ _), by repeat (first | exact HW.2.2.2.2.2.2.1 | refine cell_al ?_ _), by repeat (first | exact HW.2.2.2.2.2.2.2.1 | refine cell_al ?_ _), by repeat (first | exact HW.2.2.2.2.2.2.2.2 | refine cell_al ?_ _)⟩) (fun hx => ?_)
          clear hx hK K hS
          refine any_one 9 zT12 rfl (fun K hK => ?_)
          rw [if_pos (by rfl)]
          go_simp
          refine any_hand hK (fun h => absurd rfl h) (fun hx => ?_)
          clear hx hK K
          refine any_done zT12 ?_
          exact ⟨_, _, rfl, (by repeat (first | exact row4_new _ _ (k1, k2, k3, k4) _ _ zT16 | refine row4_al ?_ _)), (by repeat (first | exact row4_new _ _ (l1, l2, l3, l4) _ _ zT16 | refine row4_al ?_ _)), 1, _, (by rw [HWD.out]; (repeat rw [alloc_eq_grow]); (repeat rw [grow_grow]); rfl)⟩
        rw [if_pos (by rfl)]
        go_simp
        refine any_hand hK (fun _ => ⟨cell_al hS.1 _, cell_al hS.2.1 _, cell_al hS.2.2.1 _, cell_al hS.2.2.2.1 _, cell_al hS.2.2.2.2.1 _, cell_al hS.2.2.2.2.2.1 _, cell_al hS.2.2.2.2.2.2.1 _, cell_al hS.2.2.2.2.2.2.2.1 _, cell_al hS.2.2.2.2.2.2.2.2 _⟩) (fun hx => ?_)
        have hS2 := hx zT14
        clear hx hK K hS
        have hS := hS2
        clear hS2
        refine any_one 5 zT12 rfl (fun K hK => ?_)
        rw [if_pos (by rfl)]
        go_wp2_with (go_at_fn kf; refine (hkb _).mono ?_; rintro e w1 ⟨rfl, o1, o2, rfl⟩)
        refine any_hand hK (fun _ => ⟨cell_al (cell_al hS.1 _) _, cell_al (cell_al hS.2.1 _) _, cell_al (cell_al hS.2.2.1 _) _, cell_al (cell_al hS.2.2.2.1 _) _, cell_al (cell_al hS.2.2.2.2.1 _) _, cell_al (cell_al hS.2.2.2.2.2.1 _) _, cell_al (cell_al hS.2.2.2.2.2.2.1 _) _, cell_al (cell_al hS.2.2.2.2.2.2.2.1 _) _, cell_al (cell_al hS.2.2.2.2.2.2.2.2 _) _⟩) (fun hx => ?_)
        have hS2 := hx zT14
        clear hx hK K hS
        have hS := hS2
        clear hS2
        refine any_one 8 zT12 rfl (fun K hK => ?_)
        rw [if_pos (by rfl)]
        go_simp
        refine any_hand hK (fun _ => ⟨by repeat (first | exact HW.1 | refine cell_al ?_ _), by repeat (first | exact HW.2.1 | refine cell_al ?_ _), by repeat (first | exact HW.2.2.1 | refine cell_al ?_ _), by repeat (first | exact HW.2.2.2.1 | refine cell_al ?_ _), by repeat (first | exact HW.2.2.2.2.1 | refine cell_al ?_ _), by repeat (first | exact HW.2.2.2.2.2.1 | refine cell_al ?_ _), by repeat (first | exact HW.2.2.2.2.2.2.1 | refine cell_al ?_ _), by repeat (first | exact HW.2.2.2.2.2.2.2.1 | refine cell_al ?_ _), by repeat (first | exact HW.2.2.2.2.2.2.2.2 | refine cell_al ?_ _)⟩) (fun hx => ?_)
        clear hx hK K hS
        refine any_one 9 zT12 rfl (fun K hK => ?_)
        rw [if_pos (by rfl)]
        go_simp
        refine any_hand hK (fun h => absurd rfl h) (fun hx => ?_)
        clear hx hK K
        refine any_done zT12 ?_
        exact ⟨_, _, rfl, (by repeat (first | exact row4_new _ _ (k1, k2, k3, k4) _ _ zT16 | refine row4_al ?_ _)), (by repeat (first | exact row4_new _ _ (l1, l2, l3, l4) _ _ zT16 | refine row4_al ?_ _)), 1, _, (by rw [HWD.out]; (repeat rw [alloc_eq_grow]); (repeat rw [grow_grow]); rfl)⟩
      rw [if_pos (by rfl)]
      go_simp
      refine any_hand hK (fun _ => ⟨cell_al hS.1 _, cell_al hS.2.1 _, cell_al hS.2.2.1 _, cell_al hS.2.2.2.1 _, cell_al hS.2.2.2.2.1 _, cell_al hS.2.2.2.2.2.1 _, cell_al hS.2.2.2.2.2.2.1 _, cell_al hS.2.2.2.2.2.2.2.1 _, cell_al hS.2.2.2.2.2.2.2.2 _⟩) (fun hx => ?_)
      have hS2 := hx zT14
      clear hx hK K hS
      have hS := hS2
      clear hS2
      refine any_one 2 zT12 rfl (fun K hK => ?_)
      rw [if_pos (by rfl)]
      go_wp2_with (go_at_fn kf; refine (hka _).mono ?_; rintro e w1 ⟨rfl, o1, o2, rfl⟩)
      refine any_hand hK (fun _ => ⟨cell_al (cell_al hS.1 _) _, cell_al (cell_al hS.2.1 _) _, cell_al (cell_al hS.2.2.1 _) _, cell_al (cell_al hS.2.2.2.1 _) _, cell_al (cell_al hS.2.2.2.2.1 _) _, cell_al (cell_al hS.2.2.2.2.2.1 _) _, cell_al (cell_al hS.2.2.2.2.2.2.1 _) _, cell_al (cell_al hS.2.2.2.2.2.2.2.1 _) _, cell_al (cell_al hS.2.2.2.2.2.2.2.2 _) _⟩) (fun hx => ?_)
      have hS2 := hx zT14
      clear hx hK K hS
      have hS := hS2
      clear hS2
      refine any_one 5 zT12 rfl (fun K hK => ?_)
      rw [if_pos (by rfl)]
      go_wp2_with (go_at_fn kf; refine (hkb _).mono ?_; rintro e w1 ⟨rfl, o1, o2, rfl⟩)
      refine any_hand hK (fun _ => ⟨cell_al (cell_al hS.1 _) _, cell_al (cell_al hS.2.1 _) _, cell_al (cell_al hS.2.2.1 _) _, cell_al (cell_al hS.2.2.2.1 _) _, cell_al (cell_al hS.2.2.2.2.1 _) _, cell_al (cell_al hS.2.2.2.2.2.1 _) _, cell_al (cell_al hS.2.2.2.2.2.2.1 _) _, cell_al (cell_al hS.2.2.2.2.2.2.2.1 _) _, cell_al (cell_al hS.2.2.2.2.2.2.2.2 _) _⟩) (fun hx => ?_)
      have hS2 := hx zT14
      clear hx hK K hS
      have hS := hS2
      clear hS2
      refine any_one 8 zT12 rfl (fun K hK => ?_)
      rw [if_pos (by rfl)]
      go_simp
      refine any_hand hK (fun _ => ⟨by repeat (first | exact HW.1 | refine cell_al ?_ _), by repeat (first | exact HW.2.1 | refine cell_al ?_ _), by repeat (first | exact HW.2.2.1 | refine cell_al ?_ _), by repeat (first | exact HW.2.2.2.1 | refine cell_al ?_ _), by repeat (first | exact HW.2.2.2.2.1 | refine cell_al ?_ _), by repeat (first | exact HW.2.2.2.2.2.1 | refine cell_al ?_ _), by repeat (first | exact HW.2.2.2.2.2.2.1 | refine cell_al ?_ _), by repeat (first | exact HW.2.2.2.2.2.2.2.1 | refine cell_al ?_ _), by repeat (first | exact HW.2.2.2.2.2.2.2.2 | refine cell_al ?_ _)⟩) (fun hx => ?_)
      clear hx hK K hS
      refine any_one 9 zT12 rfl (fun K hK => ?_)
      rw [if_pos (by rfl)]
      go_simp
      refine any_hand hK (fun h => absurd rfl h) (fun hx => ?_)
      clear hx hK K
      refine any_done zT12 ?_
      exact ⟨_, _, rfl, (by repeat (first | exact row4_new _ _ (k1, k2, k3, k4) _ _ zT16 | refine row4_al ?_ _)), (by repeat (first | exact row4_new _ _ (l1, l2, l3, l4) _ _ zT16 | refine row4_al ?_ _)), 1, _, (by rw [HWD.out]; (repeat rw [alloc_eq_grow]); (repeat rw [grow_grow]); rfl)⟩
    rw [if_pos (by rfl)]
    go_simp
    refine any_hand hK (fun _ => ⟨cell_al hS.1 _, cell_al hS.2.1 _, cell_al hS.2.2.1 _, cell_al hS.2.2.2.1 _, cell_al hS.2.2.2.2.1 _, cell_al hS.2.2.2.2.2.1 _, cell_al hS.2.2.2.2.2.2.1 _, cell_al hS.2.2.2.2.2.2.2.1 _, cell_al hS.2.2.2.2.2.2.2.2 _⟩) (fun hx => ?_)
    have hS2 := hx zT14
    clear hx hK K hS
    have hS := hS2
    clear hS2
    refine any_br2 2 6 zT12 rfl rfl (fun K hK => ?_) (fun K hK => ?_)
    · rw [if_pos (by rfl)]
      go_wp2_with (go_at_fn kf; refine (hka _).mono ?_; rintro e w1 ⟨rfl, o1, o2, rfl⟩)
      refine any_hand hK (fun _ => ⟨cell_al (cell_al hS.1 _) _, cell_al (cell_al hS.2.1 _) _, cell_al (cell_al hS.2.2.1 _) _, cell_al (cell_al hS.2.2.2.1 _) _, cell_al (cell_al hS.2.2.2.2.1 _) _, cell_al (cell_al hS.2.2.2.2.2.1 _) _, cell_al (cell_al hS.2.2.2.2.2.2.1 _) _, cell_al (cell_al hS.2.2.2.2.2.2.2.1 _) _, cell_al (cell_al hS.2.2.2.2.2.2.2.2 _) _⟩) (fun hx => ?_)
      have hS2 := hx zT14
      clear hx hK K hS
      have hS := hS2
      clear hS2
      refine any_br2 5 6 zT12 rfl rfl (fun K hK => ?_) (fun K hK => ?_)
      · rw [if_pos (by rfl)]
        go_wp2_with (go_at_fn kf; refine (hkb _).mono ?_; rintro e w1 ⟨rfl, o1, o2, rfl⟩)
        refine any_hand hK (fun _ => ⟨cell_al (cell_al hS.1 _) _, cell_al (cell_al hS.2.1 _) _, cell_al (cell_al hS.2.2.1 _) _, cell_al (cell_al hS.2.2.2.1 _) _, cell_al (cell_al hS.2.2.2.2.1 _) _, cell_al (cell_al hS.2.2.2.2.2.1 _) _, cell_al (cell_al hS.2.2.2.2.2.2.1 _) _, cell_al (cell_al hS.2.2.2.2.2.2.2.1 _) _, cell_al (cell_al hS.2.2.2.2.2.2.2.2 _) _⟩) (fun hx => ?_)
        have hS2 := hx zT14
        clear hx hK K hS
        have hS := hS2
        clear hS2
        refine any_one 6 zT12 rfl (fun K hK => ?_)
        rw [if_pos (by rfl)]
        go_simp
        refine any_hand hK (fun _ => ⟨cell_al hS.1 _, cell_al hS.2.1 _, cell_al hS.2.2.1 _, cell_al hS.2.2.2.1 _, cell_al hS.2.2.2.2.1 _, cell_al hS.2.2.2.2.2.1 _, cell_al hS.2.2.2.2.2.2.1 _, cell_al hS.2.2.2.2.2.2.2.1 _, cell_al hS.2.2.2.2.2.2.2.2 _⟩) (fun hx => ?_)
        have hS2 := hx zT14
        clear hx hK K hS
        have hS := hS2
        clear hS2
        refine any_one 8 zT12 rfl (fun K hK => ?_)
        rw [if_pos (by rfl)]
        go_simp
        refine any_hand hK (fun _ => ⟨by repeat (first | exact HW.1 | refine cell_al ?_ _), by repeat (first | exact HW.2.1 | refine cell_al ?_ _), by repeat (first | exact HW.2.2.1 | refine cell_al ?_ _), by repeat (first | exact HW.2.2.2.1 | refine cell_al ?_ _), by repeat (first | exact HW.2.2.2.2.1 | refine cell_al ?_ _), by repeat (first | exact HW.2.2.2.2.2.1 | refine cell_al ?_ _), by repeat (first | exact HW.2.2.2.2.2.2.1 | refine cell_al ?_ _), by repeat (first | exact HW.2.2.2.2.2.2.2.1 | refine cell_al ?_ _), by repeat (first | exact HW.2.2.2.2.2.2.2.2 | refine cell_al ?_ _)⟩) (fun hx => ?_)
        clear hx hK K hS
        refine any_one 9 zT12 rfl (fun K hK => ?_)
        rw [if_pos (by rfl)]
        go_simp
        refine any_hand hK (fun h => absurd rfl h) (fun hx => ?_)
        clear hx hK K
        refine any_done zT12 ?_
        exact ⟨_, _, rfl, (by repeat (first | exact row4_new _ _ (k1, k2, k3, k4) _ _ zT16 | refine row4_al ?_ _)), (by repeat (first | exact row4_new _ _ (l1, l2, l3, l4) _ _ zT16 | refine row4_al ?_ _)), 1, _, (by rw [HWD.out]; (repeat rw [alloc_eq_grow]); (repeat rw [grow_grow]); rfl)⟩
      rw [if_pos (by rfl)]
      go_simp
      refine any_hand hK (fun _ => ⟨cell_al hS.1 _, cell_al hS.2.1 _, cell_al hS.2.2.1 _, cell_al hS.2.2.2.1 _, cell_al hS.2.2.2.2.1 _, cell_al hS.2.2.2.2.2.1 _, cell_al hS.2.2.2.2.2.2.1 _, cell_al hS.2.2.2.2.2.2.2.1 _, cell_al hS.2.2.2.2.2.2.2.2 _⟩) (fun hx => ?_)
      have hS2 := hx zT14
      clear hx hK K hS
      have hS := hS2
      clear hS2
      refine any_one 5 zT12 rfl (fun K hK => ?_)
      rw [if_pos (by rfl)]
      go_wp2_with (go_at_fn kf; refine (hkb _).mono ?_; rintro e w1 ⟨rfl, o1, o2, rfl⟩)
      refine any_hand hK (fun _ => ⟨cell_al (cell_al hS.1 _) _, cell_al (cell_al hS.2.1 _) _, cell_al (cell_al hS.2.2.1 _) _, cell_al (cell_al hS.2.2.2.1 _) _, cell_al (cell_al hS.2.2.2.2.1 _) _, cell_al (cell_al hS.2.2.2.2.2.1 _) _, cell_al (cell_al hS.2.2.2.2.2.2.1 _) _, cell_al (cell_al hS.2.2.2.2.2.2.2.1 _) _, cell_al (cell_al hS.2.2.2.2.2.2.2.2 _) _⟩) (fun hx => ?_)
      have hS2 := hx zT14
      clear hx hK K hS
      have hS := hS2
      clear hS2
      refine any_one 8 zT12 rfl (fun K hK => ?_)
      rw [if_pos (by rfl)]
      go_simp
      refine any_hand hK (fun _ => ⟨by repeat (first | exact HW.1 | refine cell_al ?_ _), by repeat (first | exact HW.2.1 | refine cell_al ?_ _), by repeat (first | exact HW.2.2.1 | refine cell_al ?_ _), by repeat (first | exact HW.2.2.2.1 | refine cell_al ?_ _), by repeat (first | exact HW.2.2.2.2.1 | refine cell_al ?_ _), by repeat (first | exact HW.2.2.2.2.2.1 | refine cell_al ?_ _), by repeat (first | exact HW.2.2.2.2.2.2.1 | refine cell_al ?_ _), by repeat (first | exact HW.2.2.2.2.2.2.2.1 | refine cell_al ?_ _), by repeat (first | exact HW.2.2.2.2.2.2.2.2 | refine cell_al ?_ _)⟩) (fun hx => ?_)
      clear hx hK K hS
      refine any_one 9 zT12 rfl (fun K hK => ?_)
      rw [if_pos (by rfl)]
      go_simp
      refine any_hand hK (fun h => absurd rfl h) (fun hx => ?_)
      clear hx hK K
      refine any_done zT12 ?_
      exact ⟨_, _, rfl, (by repeat (first | exact row4_new _ _ (k1, k2, k3, k4) _ _ zT16 | refine row4_al ?_ _)), (by repeat (first | exact row4_new _ _ (l1, l2, l3, l4) _ _ zT16 | refine row4_al ?_ _)), 1, _, (by rw [HWD.out]; (repeat rw [alloc_eq_grow]); (repeat rw [grow_grow]); rfl)⟩
    rw [if_pos (by rfl)]
    go_simp
    refine any_hand hK (fun _ => ⟨cell_al hS.1 _, cell_al hS.2.1 _, cell_al hS.2.2.1 _, cell_al hS.2.2.2.1 _, cell_al hS.2.2.2.2.1 _, cell_al hS.2.2.2.2.2.1 _, cell_al hS.2.2.2.2.2.2.1 _, cell_al hS.2.2.2.2.2.2.2.1 _, cell_al hS.2.2.2.2.2.2.2.2 _⟩) (fun hx => ?_)
    have hS2 := hx zT14
    clear hx hK K hS
    have hS := hS2
    clear hS2
    refine any_one 2 zT12 rfl (fun K hK => ?_)
    rw [if_pos (by rfl)]
    go_wp2_with (go_at_fn kf; refine (hka _).mono ?_; rintro e w1 ⟨rfl, o1, o2, rfl⟩)
    refine any_hand hK (fun _ => ⟨cell_al (cell_al hS.1 _) _, cell_al (cell_al hS.2.1 _) _, cell_al (cell_al hS.2.2.1 _) _, cell_al (cell_al hS.2.2.2.1 _) _, cell_al (cell_al hS.2.2.2.2.1 _) _, cell_al (cell_al hS.2.2.2.2.2.1 _) _, cell_al (cell_al hS.2.2.2.2.2.2.1 _) _, cell_al (cell_al hS.2.2.2.2.2.2.2.1 _) _, cell_al (cell_al hS.2.2.2.2.2.2.2.2 _) _⟩) (fun hx => ?_)
    have hS2 := hx zT14
    clear hx hK K hS
    have hS := hS2
    clear hS2
    refine any_one 5 zT12 rfl (fun K hK => ?_)
    rw [if_pos (by rfl)]
    go_wp2_with (go_at_fn kf; refine (hkb _).mono ?_; rintro e w1 ⟨rfl, o1, o2, rfl⟩)
    refine any_hand hK (fun _ => ⟨cell_al (cell_al hS.1 _) _, cell_al (cell_al hS.2.1 _) _, cell_al (cell_al hS.2.2.1 _) _, cell_al (cell_al hS.2.2.2.1 _) _, cell_al (cell_al hS.2.2.2.2.1 _) _, cell_al (cell_al hS.2.2.2.2.2.1 _) _, cell_al (cell_al hS.2.2.2.2.2.2.1 _) _, cell_al (cell_al hS.2.2.2.2.2.2.2.1 _) _, cell_al (cell_al hS.2.2.2.2.2.2.2.2 _) _⟩) (fun hx => ?_)
    have hS2 := hx zT14
    clear hx hK K hS
    have hS := hS2
    clear hS2
    refine any_one 8 zT12 rfl (fun K hK => ?_)
    rw [if_pos (by rfl)]
    go_simp
    refine any_hand hK (fun _ => ⟨by repeat (first | exact HW.1 | refine cell_al ?_ _), by repeat (first | exact HW.2.1 | refine cell_al ?_ _), by repeat (first | exact HW.2.2.1 | refine cell_al ?_ _), by repeat (first | exact HW.2.2.2.1 | refine cell_al ?_ _), by repeat (first | exact HW.2.2.2.2.1 | refine cell_al ?_ _), by repeat (first | exact HW.2.2.2.2.2.1 | refine cell_al ?_ _), by repeat (first | exact HW.2.2.2.2.2.2.1 | refine cell_al ?_ _), by repeat (first | exact HW.2.2.2.2.2.2.2.1 | refine cell_al ?_ _), by repeat (first | exact HW.2.2.2.2.2.2.2.2 | refine cell_al ?_ _)⟩) (fun hx => ?_)
    clear hx hK K hS
    refine any_one 9 zT12 rfl (fun K hK => ?_)
    rw [if_pos (by rfl)]
    go_simp
    refine any_hand hK (fun h => absurd rfl h) (fun hx => ?_)
    clear hx hK K
    refine any_done zT12 ?_
    exact ⟨_, _, rfl, (by repeat (first | exact row4_new _ _ (k1, k2, k3, k4) _ _ zT16 | refine row4_al ?_ _)), (by repeat (first | exact row4_new _ _ (l1, l2, l3, l4) _ _ zT16 | refine row4_al ?_ _)), 1, _, (by rw [HWD.out]; (repeat rw [alloc_eq_grow]); (repeat rw [grow_grow]); rfl)⟩
  intro e a' w' hq
  cases e with
  | normal =>
    obtain ⟨b6, b7, rfl, h6, h7, q, os', hw⟩ := hq
    have HW := Lib.hid hw
    clear hw hka hkb ek hc hb0
    have hcon := fun W => cmps_at 4 b6 b7 (keyL (k1, k2, k3, k4)) (keyL (l1, l2, l3, l4)) W rfl rfl zT15
    rw [lexL_key] at hcon
    have H6 := Lib.hid h6
    have H7 := Lib.hid h7
    clear h6 h7
    simp only [Exit.then]
    go_wp2_with fail
    go_quiet ((go_at_call 78; exact Calls.quiet_of_same (hcon _ H6.out H7.out)))
    go_wp2_with fail
    go_ret
    refine ⟨rfl, ?_⟩
    rw [HW.out]
    simp only [alloc_eq_grow]
    exact grow_ex _ _ _ _ _ _
  | _ => exact hq.elim
theorem encv_get (l : List Ar) (j : Nat) (h : j < l.length * 4) : (l.flatMap encAr)[j]? = some ((encAr l.toArray[j / 4]!)[j % 4]!) := by
 induction l generalizing j with
 | nil => simp at h
 | cons a l ih =>
  rw [List.flatMap_cons]
  match j, h with
  | 0, _ => rfl
  | 1, _ => rfl
  | 2, _ => rfl
  | 3, _ => rfl
  | j + 4, h =>
   simp only [List.length_cons] at h
   have h2 := ih j zT15
   rw [show (encAr a ++ l.flatMap encAr)[j + 4]? = (l.flatMap encAr)[j]? from rfl, h2]
   have e1 : (j + 4) / 4 = j / 4 + 1 := by omega
   have e2 : (j + 4) % 4 = j % 4 := by omega
   rw [e1, e2]
   have h3 : j / 4 < l.length := by omega
   simp [h3]
theorem encv_len (l : List Ar) : (l.flatMap encAr).length = l.length * 4 := by
 induction l with
 | nil => rfl
 | cons a l ih => rw [List.flatMap_cons, List.length_append, ih]; simp [encAr]; omega
theorem arD_get (a : Ar) (j : Nat) (h : j < 4) : (arD a)[j]? = some (.p ((encAr a)[j]!)) := by
 match j, h with
 | 0, _ => rfl
 | 1, _ => rfl
 | 2, _ => rfl
 | 3, _ => rfl
theorem hasL_ar (r : Nat) (l : List Ar) : V.hasL r (l.flatMap arV4) = false := hasL_flat r l arD
section
variable {c : Cx} {s : S} {o : Oper}
/-- append of arcs that are plain data onto a slice of the call's own. -/
theorem st_appendA {l : List Ar} {t e : TypeId} {x y : Operand} {r bt bt' n : Nat} {z : Value} {f : Bool} {row : Row} {l1 : List V} (hu : c.P.underlying t = some (.slice e)) (hi : Inf c.P e 4 bt z) (hzs : z.cells.size = 4)
  (ho : o.op = .call { callee := .builtin .append, args := #[x, y], argTypes := #[t, t] }) (hx : s.ev x = some (.own r 4 n f)) (hr : fnd s.H r = some row) (hf : row.nil = f) (hrz : row.sz = 4) (hty : row.ty = e)
  (hl : row.cells.take (n * 4) = l1) (hl1 : l1.length = n * 4) (hc1 : V.hasL r l1 = false) (hy : s.ev y = some (.d (.sl 4 bt' (l.map arD)))) (hm : 0 < l.length) (h63 : n + l.length ≤ 140737488355328) (hbt : (n + l.length) * bt ≤ 140737488355328) (hd : dok s o = true) :
  Step c o s (fun s' => s' = S.put ⟨s.n, (s.forget r).T, (r, ⟨e, l1 ++ l.flatMap arV4, false, 4⟩) :: (s.forget r).H, (s.forget r).K⟩ o.dst (.own r 4 (n + l.length) false)) :=
 st_append_any (news := l.flatMap arV4) hu hi hzs zT15 ho hx hr hf hrz hty hl hl1 hc1 (enc_len l) (hasL_ar r l) hm h63 hbt hd (fun g a w hs => by
  have h := hs.ev hy
  generalize a.eval y = u at h
  cases h with
  | d _ _ h =>
   cases h with
   | sl _ _ _ ad cap b o' F _ ha hl hc hr =>
    obtain ⟨rfl, hq, hb⟩ := ha (by intro e; simp at e; subst e; simp at hm)
    have key : ∀ j, j < l.length * 4 → F (j / 4) (j % 4) = (encAr l.toArray[j / 4]!)[j % 4]! ∧ w.cell? ⟨b, o' + j / 4 * 4 + j % 4, none⟩ = some (F (j / 4) (j % 4)) := by
     intro j hj
     have h4 : j / 4 < l.length := by omega
     have e1 : (l.map arD)[j / 4]? = some (arD l[j / 4]) := by simp [h4]
     have e2 := arD_get l[j / 4] (j % 4) zT15
     have h1 := hr _ _ _ _ e1 e2
     have h2 := hc _ _ _ _ e1 e2
     refine ⟨?_, h2⟩
     generalize F (j / 4) (j % 4) = y at h1
     cases h1
     simp [h4]
    refine ⟨⟨b, o', none⟩, cap, l.flatMap encAr, by simp, encv_len l, fun j u hu => ?_, fun u hu => ?_, fun j u x hu hx => ?_⟩
    ·have hj : j < l.length * 4 := by rw [← encv_len]; exact (List.getElem?_eq_some_iff.1 hu).1
     rw [encv_get _ _ hj, ← (key j hj).1] at hu
     rw [addr_add, ← hu, ← (key j hj).2]
     congr 2
     omega
    ·obtain ⟨a, _, ha⟩ := List.mem_flatMap.1 hu
     exact enc1 a u ha
    have hj : j < l.length * 4 := by rw [← encv_len]; exact (List.getElem?_eq_some_iff.1 hx).1
    rw [encv_get _ _ hj] at hx
    rw [enc_get _ _ hj] at hu
    simp only [Option.some.injEq] at hu hx
    subst hu hx
    exact .d _ _ (.p _))
end
theorem FnO.sl {P : Program} {f : FuncId} {args : List V} {post : V → List (Nat × Row) → Prop} (j : Nat) {sz bt : Nat} {rows : List (List D)} (hj : args[j]? = some (.d (.sl sz bt rows))) (h : rows.length * bt ≤ 140737488355328 → FnO P f args post) : FnO P f args post := by
 intro w out g xs ho hx
 have hlt : j < xs.length := by rw [← hx.1]; exact (List.getElem?_eq_some_iff.1 hj).1
 have hv := hx.2 j _ _ hj (List.getElem?_eq_getElem hlt)
 generalize xs[j] = y at hv
 cases hv with
 | d _ _ h2 => exact h h2.bound w out g xs ho hx
def ClO (l : List Ar) (v : V) (H : List (Nat × Row)) : Prop := ∃ fl, (fl = true → l.length = 0) ∧ v = .own 900 4 l.length fl ∧ H = [(900, ⟨47, l.flatMap arV4, fl, 4⟩)]
theorem am_CloneA (l : List Ar) : FnO Tryz.prog 74 [.d (arsD l)] (ClO l) := by
 refine FnO.sl 0 rfl fun hb => ?_
 rw [List.length_map] at hb
 refine FnO.intro (n := 8) ⟨Tryz.func74, rfl, rfl, rfl, rfl⟩ zT8 zT16 fun w0 out => ?_
 apply AW.sr
 refine AL.z ?_
 apply AL.nil
 try simp only [thenS, S.put, enum, List.nil_append, List.cons_append, List.append_nil, Nat.zero_add, Nat.reduceAdd]
 apply AW.seq
 apply AW.sr
 refine AL.z ?_
 refine AL.call rfl (sm_eqnil Tryz.underlying33 rfl rfl rfl rfl) ?_
 rintro _ ⟨b, rfl, hnil⟩ -
 apply AL.nil
 try simp only [nd, setL, V.cs, nz, Nat.reduceAdd, nm, ns]
 cases b with
 | true =>
  have h0 := hnil rfl
  have h1 : l = [] := by simpa using h0
  subst h1
  refine AW.condT rfl ?_
  apply AW.sr
  refine AL.z ?_
  apply AL.nil
  try simp only [nd]
  refine AW.adopt 2 900 4 47 rfl rfl ?_
  apply AW.ret
  exact ⟨[_], [(900, ⟨47, [], true, 4⟩)], ⟨rfl, trivial⟩, ⟨rfl, trivial⟩, ⟨true, fun _ => rfl, rfl, rfl⟩, by simp [tupOf, V.has], fun r row k h1 h2 => by
    simp only [fnd, beq_iff_eq] at h1
    split at h1
    ·cases h1; first | (rw [hasL_ar] at h2; cases h2) | (simp [V.hasL] at h2)
    cases h1⟩
 | false =>
  by_cases h0 : l = []
  ·subst h0
   refine AW.condF rfl ?_
   apply AW.skip
   try simp only [thenS]
   apply AW.sr
   refine AL.sm rfl (sm_slice0 900 Tryz.underlying33 inf47 rfl zT0 rfl) ?_
   refine AL.z ?_
   (first | (refine AL.rp rfl rfl (rp_append_nil Tryz.underlying33 inf47 rfl rfl rfl) ?_) | (refine AL.rp rfl rfl (rp_append_none Tryz.underlying33 inf47 rfl rfl rfl) ?_))
   refine AL.z ?_
   apply AL.nil
   try simp only [nd, setL, V.cs, nz, Nat.reduceAdd, nm, ns]
   apply AW.ret
   exact ⟨[_], [(900, ⟨47, [], false, 4⟩)], ⟨rfl, trivial⟩, ⟨rfl, trivial⟩, ⟨false, (fun h => by cases h), rfl, rfl⟩, by simp [tupOf, V.has], fun r row k h1 h2 => by
    simp only [fnd, beq_iff_eq] at h1
    split at h1
    ·cases h1; first | (rw [hasL_ar] at h2; cases h2) | (simp [V.hasL] at h2)
    cases h1⟩
  have hlen : 0 < l.length := List.length_pos_iff.2 h0
  refine AW.condF rfl ?_
  apply AW.skip
  try simp only [thenS]
  apply AW.sr
  refine AL.sm rfl (sm_slice0 900 Tryz.underlying33 inf47 rfl zT0 rfl) ?_
  refine AL.z ?_
  refine AL.st rfl (st_appendA Tryz.underlying33 inf47 rfl rfl rfl rfl rfl rfl rfl rfl rfl zT0 rfl zT13 zT15 zT15 rfl) ?_
  simp only [S.forget, S.put, S.newObj, junkIf, V.has, V.hasL, nh, hasL_flat, hasL_append, List.map_cons, List.map_nil, List.filter_cons, List.filter_nil, Nat.reduceBNe, Nat.reduceBEq, eq_self, bne_self_eq_false,  Bool.not_true, Bool.not_false, Bool.or_false, Bool.or_true, Bool.false_or, Bool.true_or, if_true, if_false, Bool.false_eq_true, ite_true, ite_false, ↓reduceIte, beq_self_eq_true, Nat.reduceEqDiff]
  refine AL.z ?_
  apply AL.nil
  try simp only [nd, setL, V.cs, nz, Nat.reduceAdd, nm, ns]
  apply AW.ret
  exact ⟨[_], [(900, ⟨47, l.flatMap arV4, false, 4⟩)], ⟨rfl, trivial⟩, ⟨rfl, trivial⟩, ⟨false, (fun h => by cases h), rfl, rfl⟩, by simp [tupOf, V.has], fun r row k h1 h2 => by
   simp only [fnd, beq_iff_eq] at h1
   split at h1
   ·cases h1; first | (rw [hasL_ar] at h2; cases h2) | (simp [V.hasL] at h2)
   cases h1⟩
def okA (y : Ar) : Prop := (0 ≤ y.i ∧ y.i ≤ 1000) ∧ (0 ≤ y.o ∧ y.o ≤ 1000) ∧ 0 ≤ y.t ∧ y.t ≤ 60
theorem am_by (kf : FuncId) : FnO Tryz.prog 38 [.fn kf []] (fun v H => v = .fn 77 [.ref 901 0] ∧ H = [(901, ⟨108, [.fn kf []], false, 0⟩)]) := by
 refine FnO.intro (n := 4) ⟨Tryz.func38, rfl, rfl, rfl, rfl⟩ zT8 zT16 fun w0 out => ?_
 apply AW.sr
 refine AL.sm rfl (sm_box 901 rfl rfl rfl rfl rfl) ?_
 refine AL.z ?_
 apply AL.nil
 try simp only [nd, setL, V.cs, nz, Nat.reduceAdd, nm, ns, enum]
 apply AW.sr
 refine AL.rp rfl rfl (rp_func (vs := [_]) rfl rfl) ?_
 refine AL.z ?_
 apply AL.nil
 try simp only [nd]
 apply AW.ret
 exact ⟨[_], [(901, ⟨108, [.fn kf []], false, 0⟩)], ⟨rfl, trivial⟩, ⟨rfl, trivial⟩, ⟨rfl, rfl⟩, by simp [tupOf, V.has, V.hasL], fun r row k h1 h2 => by
  simp only [fnd, beq_iff_eq] at h1
  split at h1
  ·cases h1; simp [V.hasL, V.has] at h2
  cases h1⟩
theorem ent_by (args : Array Value) (w : World) : (callFunc 77 args).run Tryz.prog w = .ok (.enter 77 args) w := enters_of Tryz.func77 zT12 rfl args w
theorem ent_rk (args : Array Value) (w : World) : (callFunc 39 args).run Tryz.prog w = .ok (.enter 39 args) w := enters_of Tryz.func39 zT12 rfl args w
theorem am_Sorted1 (l : List Ar) (hl : l.length ≤ 400) : Fn2 Tryz.prog 74 36 [.d (arsD l)] (fun v => v = .d (arsD (inO l))) := by
 refine Fn2.intro (am_CloneA l) ⟨Tryz.func36, rfl, rfl, rfl, rfl⟩ zT14 ?_
 rintro v H ⟨fl, hfl, rfl, rfl⟩ w0 out
 have hin := inO_len l
 apply AW.sr
 refine AL.z ?_
 apply AL.nil
 try simp only [thenS, S.put, enum, List.nil_append, List.cons_append, List.append_nil, Nat.zero_add, Nat.reduceAdd]
 apply AW.sr
 refine AL.z ?_
 refine AL.callo (post := ?pc0) rfl (sm_callo (args := [_]) ?hc0 ⟨Tryz.func38, rfl, rfl, rfl, rfl⟩ rfl rfl rfl rfl ?fc0) ?_
 case hc0 => exact am_by _
 case fc0 => exact (by rintro _ _ ⟨rfl, rfl⟩; first | rfl | simp [S.clean, S.put, S.newObj, S.forget, V.has, V.hasL, junkIf, setL, V.cs, hasL_i, hasL_b, hasL_s, hasL_n, hasL_rep, hasL_flat, hasL_append])
 rintro _ _ ⟨rfl, rfl⟩
 try dsimp only
 refine AL.st rfl (st_sort ⟨Tryz.func37, rfl, rfl, rfl, rfl⟩ srtR rfl rfl rfl rfl rfl zT15 rfl rfl rfl zT14 rfl ent_by (fun bk W a b hc => by_at readKey_at ent_rk bk a b W hc)) ?_
 try dsimp only
 apply AL.nil
 try simp only [nd, setL, V.cs, nz, Nat.reduceAdd, nm, ns]
 apply AW.seq
 refine AW.freeze 0 32 ((inO l).map arD) rfl rfl rfl (by rw [List.length_map, hin]) zT15 (rowsF (enc := arD) (sz := 4) (l := inO l) (fun _ => rfl) rfl) ?_
 apply AW.region
 iterate 2 refine AL.z ?_
 apply AL.nil
 try simp only [nd]
 apply AW.ret
 exact ⟨[_], ⟨rfl, trivial⟩, rfl, by simp [tupOf, V.pure, V.has]⟩
/-- A machine whose arcs have been done something to. -/
def resM (res : List Ar → List Ar) (m : Mach) : Mach := if machE m = 0 then ⟨m.start, m.states.map fun s => ⟨s.fin, res s.arcs⟩⟩ else ⟨0, []⟩
theorem arc_le {l : List St} {x : St} (h : x ∈ l) : x.arcs.length ≤ arcN l := by
 induction l with
 | nil => cases h
 | cons y l ih =>
  unfold arcN at ih ⊢
  rw [List.map_cons, List.sum_cons]
  rcases List.mem_cons.1 h with rfl | h
  ·omega
  have := ih h; omega
theorem am_with0 (m : Mach) (f : FuncId) {fn : Func} {code : Code} {nn : Nat} {rs : List ResultVar} (hIs : Is Tryz.prog f fn code nn rs) (res : List Ar → List Ar)
  (hf : ∀ l : List Ar, l.length ≤ 400 → (∀ y ∈ l, okA y) → Fn2 Tryz.prog 74 f [.d (arsD l)] (fun v => v = .d (arsD (res l)))) : Fn Tryz.prog 35 [mV m, .fn f []] (fun v => resP (machE m) (resM res m) v) := by
 by_cases h0 : machE m = 0
 ·have hz := machE_zero h0
  have hR : resM res m = ⟨m.start, m.states.map fun s => ⟨s.fin, res s.arcs⟩⟩ := by unfold resM; rw [if_pos h0]
  rw [hR, h0]
  refine Fn.mach m 0 rfl fun hb hal => ?_
  obtain ⟨st, sts⟩ := m
  simp only at hb hal hz
  obtain ⟨n, hn⟩ : ∃ n, sts.length = n := ⟨_, rfl⟩
  rw [hn] at hb
  refine Fn.intro (n := 41) ⟨Tryz.func35, rfl, rfl, rfl, rfl⟩ zT8 zT16 fun w0 out => ?_
  apply AW.sr
  refine AL.sm rfl (sm_box 2 rfl rfl rfl rfl rfl) ?_
  refine AL.sm rfl (sm_alloc (l := [.d (.p (.int .i64 0)), .d (.p (.slice none 0 0))]) 4 inf24 rfl rfl rfl rfl) ?_
  refine AL.z ?_
  apply AL.nil
  try simp only [nd, setL, V.cs, nz, Nat.reduceAdd, nm, ns, enum]
  apply AW.seq
  apply AW.sr
  refine AL.z ?_
  refine AL.call (post := ?pc1) rfl (sm_call (args := [_]) ?hc1 ⟨Tryz.func27, rfl, rfl, rfl, rfl⟩ rfl rfl rfl rfl) ?_
  case hc1 => exact Fn.eqi (am_Check ⟨st, sts⟩) h0
  rintro _ rfl -
  try dsimp only
  refine AL.z ?_
  apply AL.nil
  try simp only [nd, setL, V.cs, nz, Nat.reduceAdd, nm, ns]
  apply AW.sr
  iterate 2 refine AL.z ?_
  apply AL.nil
  try simp only [nd]
  refine AW.condF rfl ?_
  apply AW.skip
  try simp only [thenS]
  apply AW.sr
  iterate 2 refine AL.z ?_
  refine AL.rp rfl rfl (rp_build (vs := [(0, _)]) (zs := [.d (.p (.int .i64 0)), .d (.p (.slice none 0 0))]) pl24 inf24 rfl rfl rfl rfl) ?_
  refine AL.sm rfl (sm_alloc (l := [.d (.p (.int .i64 0)), .d (.p (.slice none 0 0))]) 7 inf24 rfl rfl rfl rfl) ?_
  refine AL.y ?_
  apply AL.nil
  try simp only [nd, setL, V.cs, nz, Nat.reduceAdd, nm, ns]
  apply AW.seq
  apply AW.seq
  refine AW.adoptH 7 1 901 2 35 rfl rfl rfl zT4 ?_
  apply AW.region
  iterate 4 refine AL.z ?_
  apply AL.nil
  try simp only [nd]
  apply AW.block
  refine AW.loop (fun s' => ∃ (k : Nat) (P : List St), k ≤ n ∧ P = (sts.take k).map (fun s => ⟨s.fin, res s.arcs⟩) ∧ P.length = k ∧ s' = ⟨41, [(1, .fn f []), (4, .ref 4 0), (7, .ref 7 0), (20, .d (stsD sts)), (21, .i n), (22, .i k)], [(4, ⟨24, [.i 0, .nil], false, 0⟩), (7, ⟨24, [.i st, .own 901 2 k (decide (k = 0))], false, 0⟩), (901, ⟨35, P.flatMap stV2, decide (k = 0), 2⟩)], []⟩) (fun s' => n - s'.nat 22) ⟨_, ?_, 0, [], by omega, rfl, rfl, rfl⟩ ?_
  ·exact Less.a0
  rintro s' ⟨k, P, hk, hP, hPl, rfl⟩
  have hfl : (P.flatMap stV2).length = k * 2 := by rw [flat_len (sz := 2) (fun _ => rfl), hPl]
  by_cases hlt : k < n
  ·obtain ⟨x, hx⟩ := get_lt hn hlt
   have hxm := List.mem_of_getElem? hx
   have hxl := arc_le hxm
   have hsn := take_snoc hx
   have hxo : ∀ y ∈ x.arcs, okA y := fun y hy => by
    have h := (hz.2.2.2 x hxm).2 y hy
    simp only [arOk, decide_eq_true_eq] at h
    exact ⟨h.1, h.2.1, h.2.2.2.1, by omega⟩
   have hcl := hf x.arcs zT15 hxo
   clear hxo
   apply AW.sr
   refine AL.z ?_
   apply AL.nil
   try simp only [nd]
   apply AW.seq
   refine AW.condT rfl ?_
   apply AW.skip
   try simp only [thenS]
   apply AW.seq
   apply AW.block
   apply AW.sr
   iterate 2 refine AL.z ?_
   refine AL.sm rfl (sm_alloc (l := [.d (.p (.int .i64 0)), .d (.p (.slice none 0 0))]) 9 inf35 rfl zT1 rfl rfl) ?_
   refine AL.y ?_
   apply AL.nil
   try simp only [nd, setL, V.cs, nz, Nat.reduceAdd, nm, ns]
   refine AW.draw [(0, true), (1, true), (2, true), (3, true), (4, true), (5, true), (6, true), (7, false), (8, false), (9, false), (10, false), (11, false), (12, false), (13, false)] (fun i => !([11, 12, 13] : List Nat).contains i) 14 zT12 zT12 rfl zT12 ?_
   iterate 7 refine AD1.z ?_
   refine AD1.go ?_
   refine AD2.call2 (post := ?pc2) (args := [_]) rfl rfl rfl rfl ?hc2 ⟨Tryz.func74, rfl, rfl, rfl, rfl⟩ zT13 rfl rfl rfl rfl (show 33 < 41 from by decide) rfl rfl rfl ?_
   case hc2 => exact hcl
   rintro _ rfl -
   try dsimp only
   refine AD2.rp1 rfl rfl rfl (rp_build (vs := [(0, _), (1, _)]) (zs := [.d (.p (.int .i64 0)), .d (.p (.slice none 0 0))]) pl35 inf35 rfl rfl rfl rfl) ?_
   refine AD2.sm rfl rfl (sm_slice (vs := [(0, _)]) (zs := [.d (.p (.int .i64 0)), .d (.p (.slice none 0 0))]) 36 Tryz.underlying22 inf35 rfl rfl zT14 zT14 zT14 rfl rfl rfl rfl zT1 rfl rfl) ?_
   refine AD2.go ?_
   refine AD3.st rfl rfl rfl (st_appendF Tryz.underlying22 inf35 rfl zT14 rfl rfl rfl rfl rfl rfl zT5 zT1 rfl rfl rfl rfl rfl rfl rfl zT14 zT15 zT15 rfl) ?_
   simp only [S.forget, S.put, S.newObj, junkIf, V.has, V.hasL, nh, hasL_flat, hasL_append, List.map_cons, List.map_nil, List.filter_cons, List.filter_nil, Nat.reduceBNe, Nat.reduceBEq, eq_self, bne_self_eq_false,  Bool.not_true, Bool.not_false, Bool.or_false, Bool.or_true, Bool.false_or, Bool.true_or, if_true, if_false, Bool.false_eq_true, ite_true, ite_false, ↓reduceIte, beq_self_eq_true, Nat.reduceEqDiff]
   refine AD3.rp1 rfl rfl rfl rfl (rp_field_ref Tryz.underlying24 rfl rfl rfl inf22 zT14 rfl) ?_
   (refine AD3.st rfl rfl rfl (st_store inf22 rfl rfl rfl rfl rfl rfl rfl zT7 rfl) ?_)
   refine AD3.nil ?_
   try simp only [nd, setL, V.cs, nz, Nat.reduceAdd, nm, ns]
   apply AW.region
   iterate 2 refine AL.z ?_
   apply AL.nil
   try simp only [nd]
   refine ⟨_, ?_, ⟨k + 1, P ++ [⟨x.fin, res x.arcs⟩], by omega, by rw [hsn, List.map_append, hP]; rfl, by simp [hPl], rfl⟩, ?_⟩
   ·simp only [List.map_append, List.map_cons, List.map_nil, List.flatMap_append, List.flatMap_cons, List.flatMap_nil, List.append_nil]
    exact Less.a0
   simp [S.nat, fnd]; omega
  obtain rfl : k = n := by omega
  rw [List.take_of_length_le zT15] at hP
  apply AW.sr
  refine AL.z ?_
  apply AL.nil
  try simp only [nd]
  apply AW.seq
  refine AW.condF rfl ?_
  refine AW.exit ?_
  try simp only [thenS, inBlockS, ↓reduceIte, Nat.reduceEqDiff]
  apply AW.seq
  refine AW.freezeH 7 1 32 (P.map stD) rfl rfl rfl zT14 rfl rfl (by rw [List.length_map, hPl]) zT15 (rowsF (enc := stD) (sz := 2) (l := P) (fun _ => rfl) rfl) ?_
  apply AW.region
  refine AL.z ?_
  refine AL.y ?_
  refine AL.z ?_
  apply AL.nil
  try simp only [nd, setL, V.cs, nz, Nat.reduceAdd, nm, ns]
  apply AW.ret
  exact ⟨[_, _], ⟨⟨4, 0, _, _, rfl, rfl, rfl, Tryz.underlying24, .inr ⟨rfl, _, _, _, _, inf24, rfl, rfl, rfl⟩⟩, rfl, trivial⟩, .inr ⟨rfl, by rw [hP]; rfl⟩, by simp [tupOf, V.pure, V.has, V.hasL]⟩
 obtain ⟨e, he⟩ : ∃ e, machE m = e := ⟨_, rfl⟩
 rw [he]
 rw [he] at h0
 obtain ⟨⟨st, sts⟩, rfl⟩ : ∃ m', m' = m := ⟨m, rfl⟩
 refine Fn.intro (n := 41) ⟨Tryz.func35, rfl, rfl, rfl, rfl⟩ zT8 zT16 fun w0 out => ?_
 apply AW.sr
 refine AL.sm rfl (sm_box 2 rfl rfl rfl rfl rfl) ?_
 refine AL.sm rfl (sm_alloc (l := [.d (.p (.int .i64 0)), .d (.p (.slice none 0 0))]) 4 inf24 rfl rfl rfl rfl) ?_
 refine AL.z ?_
 apply AL.nil
 try simp only [nd, setL, V.cs, nz, Nat.reduceAdd, nm, ns, enum]
 apply AW.seq
 apply AW.sr
 refine AL.z ?_
 refine AL.call (post := ?pc3) rfl (sm_call (args := [_]) ?hc3 ⟨Tryz.func27, rfl, rfl, rfl, rfl⟩ rfl rfl rfl rfl) ?_
 case hc3 => exact Fn.eqi (am_Check ⟨st, sts⟩) he
 rintro _ rfl -
 try dsimp only
 refine AL.z ?_
 apply AL.nil
 try simp only [nd, setL, V.cs, nz, Nat.reduceAdd, nm, ns]
 apply AW.sr
 iterate 2 refine AL.z ?_
 apply AL.nil
 try simp only [nd]
 refine AW.condT rfl ?_
 apply AW.sr
 refine AL.rp rfl rfl (rp_build (vs := []) (zs := [.d (.p (.int .i64 0)), .d (.p (.slice none 0 0))]) pl24 inf24 rfl rfl rfl rfl) ?_
 refine AL.z ?_
 refine AL.y ?_
 refine AL.z ?_
 apply AL.nil
 try simp only [nd, setL, V.cs, nz, Nat.reduceAdd, nm, ns]
 apply AW.ret
 exact ⟨[_, _], ⟨⟨4, 0, _, _, rfl, rfl, rfl, Tryz.underlying24, .inr ⟨rfl, _, _, _, _, inf24, rfl, rfl, rfl⟩⟩, rfl, trivial⟩, .inl ⟨h0, rfl⟩, by simp [tupOf, V.pure, V.has, V.hasL]⟩
theorem am_with (m : Mach) (f : FuncId) {fn : Func} {code : Code} {nn : Nat} {rs : List ResultVar} (hIs : Is Tryz.prog f fn code nn rs) (res : List Ar → List Ar)
  (hf : ∀ l : List Ar, l.length ≤ 400 → (∀ y ∈ l, okA y) → Fn2 Tryz.prog 74 f [.d (arsD l)] (fun v => v = .d (arsD (res l)))) : Fn Tryz.prog 35 [mV m, .fn f []] (fun v => v = .tup [mV (resM res m), .i (machE m)]) :=
 (am_with0 m f hIs res hf).wkS (resP_wk fun h => by unfold resM; rw [if_neg h])
theorem am_Sorted (m : Mach) : Fn Tryz.prog 16 [mV m] (fun v => v = .tup [mV (resM inO m), .i (machE m)]) := by
 have hw := am_with m 36 ⟨Tryz.func36, rfl, rfl, rfl, rfl⟩ inO fun l h _ => am_Sorted1 l h
 obtain ⟨M, hM⟩ : ∃ M, resM inO m = M := ⟨_, rfl⟩
 rw [hM] at hw ⊢
 refine Fn.intro (n := 8) ⟨Tryz.func16, rfl, rfl, rfl, rfl⟩ zT8 zT16 fun w0 out => ?_
 apply AW.sr
 refine AL.sm rfl (sm_box 1 rfl rfl rfl rfl rfl) ?_
 refine AL.sm rfl (sm_alloc (l := [.d (.p (.int .i64 0)), .d (.p (.slice none 0 0))]) 2 inf24 rfl rfl rfl rfl) ?_
 refine AL.z ?_
 apply AL.nil
 try simp only [nd, setL, V.cs, nz, Nat.reduceAdd, nm, ns, enum]
 apply AW.sr
 refine AL.z ?_
 refine AL.call (post := ?pc4) rfl (sm_call (args := [_, _]) ?hc4 ⟨Tryz.func35, rfl, rfl, rfl, rfl⟩ rfl rfl rfl rfl) ?_
 case hc4 => exact hw
 rintro _ rfl -
 try dsimp only
 iterate 2 refine AL.z ?_
 refine AL.y ?_
 refine AL.z ?_
 apply AL.nil
 try simp only [nd, setL, V.cs, nz, Nat.reduceAdd, nm, ns]
 apply AW.ret
 exact ⟨[_, _], ⟨⟨2, 0, _, _, rfl, rfl, rfl, Tryz.underlying24, .inr ⟨rfl, _, _, _, _, inf24, rfl, rfl, rfl⟩⟩, rfl, trivial⟩, rfl, by simp [tupOf, V.pure, V.has, V.hasL]⟩
end Go.Proofs.YthiknkcigcglkaaGreatDoor
