/- Arcs in order, plainly: one by one; there is one order alone. -/
import Derived.Test.YtjbldphpkkmdpaaBits
namespace Go.Proofs.Ytjbldphpkkmdpaa
open Go.RowKit
set_option linter.unusedSimpArgs false
set_option linter.unusedVariables false

theorem ahd_irr (a : Ar) : ahd a a = false := by
  rw [Bool.eq_false_iff, ne_eq, ahd_iff]
  omega
theorem ahd_total {a b : Ar} (h1 : ahd a b = false) (h2 : ahd b a = false) : a = b := by
  rw [Bool.eq_false_iff, ne_eq, ahd_iff] at h1 h2
  obtain ⟨ai, ao, aw, at'⟩ := a
  obtain ⟨bi, bo, bw, bt⟩ := b
  simp only at h1 h2
  obtain rfl : ai = bi := by omega
  obtain rfl : ao = bo := by omega
  obtain rfl : at' = bt := by omega
  obtain rfl : aw = bw := by omega
  rfl
theorem ahd_asym {a b : Ar} (h : ahd a b = true) : ahd b a = false := by
  rw [Bool.eq_false_iff, ne_eq, ahd_iff]
  rw [ahd_iff] at h
  omega
theorem ahd_trans1 {a b x : Ar} (h1 : ahd a b = true) (h2 : ahd b x = true) : ahd a x = true := by
  rw [ahd_iff] at *
  omega
/-- An order without ties. -/
structure Tot (lt : Ar → Ar → Bool) : Prop where
  irr : ∀ a, lt a a = false
  tr : ∀ a b x, lt a b = false → lt b x = false → lt a x = false
  one : ∀ a b, lt a b = false → lt b a = false → a = b
  asy : ∀ a b, lt a b = true → lt b a = false
theorem tot_ahd : Tot ahd := ⟨ahd_irr, fun _ _ _ => ahd_trans, fun _ _ => ahd_total, fun _ _ => ahd_asym⟩
/-- In and Out exchanged. -/
def flp (a : Ar) : Ar := ⟨a.o, a.i, a.w, a.t⟩
theorem flp_flp (a : Ar) : flp (flp a) = a := rfl
theorem tot_flp : Tot (fun a b => ahd (flp a) (flp b)) := ⟨fun a => ahd_irr _, fun _ _ _ => ahd_trans, fun a b h1 h2 => by
  have := ahd_total h1 h2
  rw [← flp_flp a, this, flp_flp], fun _ _ => ahd_asym⟩
abbrev Sd (lt : Ar → Ar → Bool) (l : List Ar) : Prop := l.Pairwise fun x y => lt y x = false
theorem sd_uniq {lt : Ar → Ar → Bool} (hT : Tot lt) : ∀ {l l' : List Ar}, Sd lt l → Sd lt l' → l.Perm l' → l = l'
  | [], l', _, _, h => (List.Perm.nil_eq h)
  | x :: l, [], _, _, h => by have := h.length_eq; simp at this
  | x :: l, y :: l', h1, h2, h => by
    have a1 := List.pairwise_cons.1 h1
    have a2 := List.pairwise_cons.1 h2
    have hxy : x = y := by
      have hx : x ∈ y :: l' := h.mem_iff.1 (by simp)
      have hy : y ∈ x :: l := h.mem_iff.2 (by simp)
      rcases List.mem_cons.1 hx with e | hx
      · exact e
      · rcases List.mem_cons.1 hy with e | hy
        · exact e.symm
        · exact hT.one _ _ (a2.1 x hx) (a1.1 y hy)
    subst hxy
    rw [sd_uniq hT a1.2 a2.2 (List.Perm.cons_inv h)]
/-- An arc put where it belongs. -/
def plc (a : Ar) : List Ar → List Ar
  | [] => [a]
  | x :: l => if ahd a x = true then a :: x :: l else x :: plc a l
theorem plc_perm (a : Ar) : ∀ l : List Ar, (plc a l).Perm (a :: l)
  | [] => List.Perm.refl _
  | x :: l => by
    unfold plc
    split
    · exact List.Perm.refl _
    · exact (List.Perm.cons x (plc_perm a l)).trans (List.Perm.swap a x l)
theorem plc_sd (a : Ar) : ∀ {l : List Ar}, Sd ahd l → Sd ahd (plc a l)
  | [], _ => by simp [plc]
  | x :: l, h => by
    have h1 := List.pairwise_cons.1 h
    unfold plc
    split
    · rename_i hx
      refine List.pairwise_cons.2 ⟨fun y hy => ?_, h⟩
      rcases List.mem_cons.1 hy with rfl | hy
      · exact ahd_asym hx
      · exact ahd_trans (h1.1 y hy) (ahd_asym hx)
    · rename_i hx
      refine List.pairwise_cons.2 ⟨fun y hy => ?_, plc_sd a h1.2⟩
      rcases List.mem_cons.1 ((plc_perm a l).mem_iff.1 hy) with rfl | hy
      · simpa using hx
      · exact h1.1 y hy
theorem plc_lt {a : Ar} {B : List Ar} : ∀ {A : List Ar}, (∃ y ∈ A, ahd a y = true) → plc a (A ++ B) = plc a A ++ B
  | [], h => by obtain ⟨y, hy, _⟩ := h; cases hy
  | x :: A, h => by
    simp only [List.cons_append, plc]
    split
    · simp
    · rename_i hx
      obtain ⟨y, hy, hlt⟩ := h
      rcases List.mem_cons.1 hy with rfl | hy
      · exact absurd hlt hx
      · rw [plc_lt ⟨y, hy, hlt⟩]; simp
theorem plc_ge {a : Ar} {B : List Ar} : ∀ {A : List Ar}, (∀ y ∈ A, ¬ ahd a y = true) → plc a (A ++ B) = A ++ plc a B
  | [], _ => rfl
  | x :: A, h => by
    simp only [List.cons_append, plc]
    rw [if_neg (h x (by simp)), plc_ge fun y hy => h y (by simp [hy])]
theorem plc_len (a : Ar) (l : List Ar) : (plc a l).length = l.length + 1 := by
  have := (plc_perm a l).length_eq
  simpa using this
def inO (l : List Ar) : List Ar := l.foldl (fun out a => plc a out) []
theorem inO_snoc {l : List Ar} {i : Nat} {a : Ar} (h : l[i]? = some a) : inO (l.take (i + 1)) = plc a (inO (l.take i)) := by rw [take_snoc h]; simp [inO]
theorem inO_both (l : List Ar) : ∀ out : List Ar, Sd ahd out → Sd ahd (l.foldl (fun out a => plc a out) out) ∧ (l.foldl (fun out a => plc a out) out).Perm (l ++ out) := by
  induction l with
  | nil => intro out h; exact ⟨h, List.Perm.refl _⟩
  | cons a l ih =>
    intro out h
    obtain ⟨h1, h2⟩ := ih (plc a out) (plc_sd a h)
    refine ⟨h1, h2.trans ?_⟩
    exact (List.Perm.append_left l (plc_perm a out)).trans List.perm_middle
theorem inO_sd (l : List Ar) : Sd ahd (inO l) := (inO_both l [] List.Pairwise.nil).1
theorem inO_perm (l : List Ar) : (inO l).Perm l := by
  have := (inO_both l [] List.Pairwise.nil).2
  rwa [List.append_nil] at this
theorem inO_len (l : List Ar) : (inO l).length = l.length := (inO_perm l).length_eq
def inF (l : List Ar) : List Ar := (inO (l.map flp)).map flp
theorem inF_sd (l : List Ar) : Sd (fun a b => ahd (flp a) (flp b)) (inF l) := by
  unfold inF
  rw [Sd, List.pairwise_map]
  exact (inO_sd _).imp fun h => by simpa only [flp_flp] using h
theorem inF_perm (l : List Ar) : (inF l).Perm l := by
  unfold inF
  have := (inO_perm (l.map flp)).map flp
  rw [List.map_map] at this
  have e : flp ∘ flp = id := funext flp_flp
  rw [e, List.map_id] at this
  exact this
/-- Of those that are alike but for the weight the first. -/
def lst : List Ar → List Ar
  | [] => []
  | a :: l => a :: lstA a l
where
  lstA : Ar → List Ar → List Ar
  | _, [] => []
  | p, b :: l => if b.i = p.i ∧ b.o = p.o ∧ b.t = p.t then lstA b l else b :: lstA b l
def alk (b p : Ar) : Bool := decide (b.i = p.i ∧ b.o = p.o ∧ b.t = p.t)
theorem lstA_snoc : ∀ {r : List Ar} {i : Nat} {a x p : Ar}, r[i]? = some x → (a :: r)[i]? = some p → lst.lstA a (r.take (i + 1)) = lst.lstA a (r.take i) ++ (if alk x p = true then [] else [x])
  | [], i, a, x, p, hx, _ => by simp at hx
  | y :: r, 0, a, x, p, hx, hp => by
    simp at hx hp
    subst hx hp
    simp only [List.take_succ_cons, List.take_zero, lst.lstA, alk, decide_eq_true_eq, List.nil_append]
  | y :: r, i + 1, a, x, p, hx, hp => by
    have ih := lstA_snoc (r := r) (i := i) (a := y) (x := x) (p := p) (by simpa using hx) (by simpa using hp)
    simp only [List.take_succ_cons] at ih ⊢
    simp only [lst.lstA]
    split
    · exact ih
    · rw [ih]; rfl
theorem lst_snoc {l : List Ar} {i : Nat} {x p : Ar} (hx : l[i + 1]? = some x) (hp : l[i]? = some p) : lst (l.take (i + 2)) = lst (l.take (i + 1)) ++ (if alk x p = true then [] else [x]) := by
  cases l with
  | nil => simp at hx
  | cons a r =>
    simp only [List.take_succ_cons, lst]
    rw [lstA_snoc (by simpa using hx) hp]; rfl
theorem lst_one {l : List Ar} {x : Ar} (hx : l[0]? = some x) : lst (l.take 1) = [x] := by
  cases l with
  | nil => simp at hx
  | cons a r => simp at hx; subst hx; rfl
theorem lst_short {l : List Ar} (h : l.length < 2) : lst l = l := by
  match l, h with
  | [], _ => rfl
  | [a], _ => rfl
theorem lstA_len : ∀ (l : List Ar) (a : Ar), (lst.lstA a l).length ≤ l.length
  | [], _ => Nat.le_refl _
  | b :: l, a => by
    have := lstA_len l b
    simp only [lst.lstA]
    split <;> simp <;> omega
theorem lst_len (l : List Ar) : (lst l).length ≤ l.length := by
  cases l with
  | nil => exact Nat.le_refl _
  | cons a l => have := lstA_len l a; simp [lst]; exact this
def inL (l : List Ar) : List Ar := lst (inO l)
end Go.Proofs.Ytjbldphpkkmdpaa
