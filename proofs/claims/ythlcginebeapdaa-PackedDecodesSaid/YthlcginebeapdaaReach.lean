/- What can be reached along edges: by rounds over all of them, or by a list of what is still to do; both find the same. -/
import Derived.Test.YthlcginebeapdaaAmP
namespace Go.Proofs.Ythlcginebeapdaa
open Go.RowKit
set_option linter.unusedSimpArgs false
set_option linter.unusedVariables false

section
variable (Init : Nat → Prop) (Edge : Nat → Nat → Prop)

inductive Rch : Nat → Prop
  | init (q : Nat) (h : Init q) : Rch q
  | step (q p : Nat) (h : Rch q) (e : Edge q p) : Rch p

def Just (L : List Bool) (x : Nat) : Prop := Init x ∨ ∃ y, L[y]? = some true ∧ Edge y x
def SoundL (L : List Bool) : Prop := ∀ x, L[x]? = some true → Rch Init Edge x
def ClosedL (L : List Bool) : Prop := ∀ x, x < L.length → Just Init Edge L x → L[x]? = some true
open Classical in
noncomputable def rchL (n : Nat) : List Bool := (List.range n).map fun q => decide (Rch Init Edge q)

variable {Init : Nat → Prop} {Edge : Nat → Nat → Prop} {L : List Bool} {n : Nat}

theorem rchL_len : (rchL Init Edge n).length = n := by simp [rchL]
theorem rchL_get {q : Nat} (hq : q < n) : (rchL Init Edge n)[q]? = some true ↔ Rch Init Edge q := by
  simp [rchL, List.getElem?_map, List.getElem?_range hq]
/-- Sound and closed: it is the set. (Nothing outside is reached from inside.) -/
theorem rch_done (hl : L.length = n) (hin : ∀ x, Rch Init Edge x → x < n) (hs : SoundL Init Edge L) (hc : ClosedL Init Edge L) : L = rchL Init Edge n := by
  have hR : ∀ x, Rch Init Edge x → L[x]? = some true := by
    intro x hx
    induction hx with
    | init q h => exact hc q (by rw [hl]; exact hin q (.init q h)) (.inl h)
    | step q p h e ih => exact hc p (by rw [hl]; exact hin p (.step q p h e)) (.inr ⟨q, ih, e⟩)
  refine List.ext_getElem? fun q => ?_
  by_cases hq : q < n
  · have h1 := rchL_get (Init := Init) (Edge := Edge) hq
    have hlt : q < L.length := by omega
    have hlt' : q < (rchL Init Edge n).length := by rw [rchL_len]; exact hq
    rw [List.getElem?_eq_getElem hlt, List.getElem?_eq_getElem hlt'] at *
    have h2 : L[q] = true → Rch Init Edge q := fun h => hs q (by rw [List.getElem?_eq_getElem hlt, h])
    have h3 : Rch Init Edge q → L[q] = true := fun h => by have := hR q h; rw [List.getElem?_eq_getElem hlt] at this; simpa using this
    have h4 : (rchL Init Edge n)[q] = true ↔ Rch Init Edge q := by simpa using h1
    congr 1
    cases h5 : L[q] <;> cases h6 : (rchL Init Edge n)[q]
    · rfl
    · exact absurd (h3 (h4.1 h6)) (by simp [h5])
    · exact absurd (h4.2 (h2 h5)) (by simp [h6])
    · rfl
  · rw [List.getElem?_eq_none (by omega), List.getElem?_eq_none (by rw [rchL_len]; omega)]

theorem set_true_get {x y : Nat} (h : L[y]? = some true) : (L.set x true)[y]? = some true := by
  rw [List.getElem?_set]
  split
  · rename_i e
    subst e
    rw [if_pos (List.getElem?_eq_some_iff.1 h).1]
  · exact h
theorem set_true_inv {x y : Nat} (h : (L.set x true)[y]? = some true) : y = x ∨ L[y]? = some true := by
  rw [List.getElem?_set] at h
  split at h
  · rename_i e; exact .inl e.symm
  · exact .inr h
theorem set_same {x : Nat} (h : L[x]? = some true) : L.set x true = L := by
  refine List.ext_getElem? fun y => ?_
  rw [List.getElem?_set]
  split
  · rename_i e
    subst e
    rw [if_pos (List.getElem?_eq_some_iff.1 h).1, h]
  · rfl
theorem count_set : ∀ (L : List Bool) {x : Nat}, L[x]? = some false → (L.set x true).count true = L.count true + 1 ∧ (L.set x true).count false + 1 = L.count false
  | [], x, h => by simp at h
  | b :: L, 0, h => by simp at h; subst h; simp
  | b :: L, x + 1, h => by
    have := count_set L (x := x) (by simpa using h)
    cases b <;> simp <;> omega
theorem sound_set {x : Nat} (hs : SoundL Init Edge L) (hj : Just Init Edge L x) : SoundL Init Edge (L.set x true) := by
  intro y hy
  rcases set_true_inv hy with rfl | h
  · rcases hj with h | ⟨z, h1, h2⟩
    · exact .init _ h
    · exact .step _ _ (hs z h1) h2
  · exact hs y h
theorem just_set {x y : Nat} (hj : Just Init Edge L x) : Just Init Edge (L.set y true) x := by
  rcases hj with h | ⟨z, h1, h2⟩
  · exact .inl h
  · exact .inr ⟨z, set_true_get h1, h2⟩

/-- In rounds: all is closed, or this round has found one more, or it has found nothing and D is done. -/
def Rnd (Init : Nat → Prop) (Edge : Nat → Nat → Prop) (n k : Nat) (D : List Bool → Prop) (L : List Bool) : Prop := L.length = n ∧ SoundL Init Edge L ∧ (ClosedL Init Edge L ∨ k + 1 ≤ L.count true ∨ k ≤ L.count true ∧ D L)
theorem Rnd.skip {k : Nat} {D D' : List Bool → Prop} (h : Rnd Init Edge n k D L) (hd : D L → D' L) : Rnd Init Edge n k D' L := by
  obtain ⟨h1, h2, h3⟩ := h
  exact ⟨h1, h2, h3.imp_right (Or.imp_right fun h => ⟨h.1, hd h.2⟩)⟩
theorem Rnd.set {k x : Nat} {D D' : List Bool → Prop} (h : Rnd Init Edge n k D L) (hx : x < n) (hj : Just Init Edge L x) (hd : L[x]? = some true → D L → D' L) : Rnd Init Edge n k D' (L.set x true) := by
  obtain ⟨h1, h2, h3⟩ := h
  have hlt : x < L.length := by omega
  by_cases hb : L[x]? = some true
  · rw [set_same hb]
    exact ⟨h1, h2, h3.imp_right (Or.imp_right fun h => ⟨h.1, hd hb h.2⟩)⟩
  · have hf : L[x]? = some false := by
      rw [List.getElem?_eq_getElem hlt] at hb ⊢
      cases h : L[x] <;> simp_all
    have hc := (count_set L hf).1
    refine ⟨by simpa using h1, sound_set h2 hj, .inr (.inl ?_)⟩
    rcases h3 with h3 | h3 | h3
    · exact absurd (h3 x hlt hj) hb
    · omega
    · omega
theorem Rnd.next {k : Nat} {D D' : List Bool → Prop} (h : Rnd Init Edge n k D L) (hd : D L → ClosedL Init Edge L) (h0 : ∀ L, D' L) : Rnd Init Edge n (k + 1) D' L := by
  obtain ⟨h1, h2, h3⟩ := h
  refine ⟨h1, h2, ?_⟩
  rcases h3 with h3 | h3 | h3
  · exact .inl h3
  · exact .inr (.inr ⟨h3, h0 L⟩)
  · exact .inl (hd h3.2)
theorem Rnd.done {k : Nat} {D : List Bool → Prop} (h : Rnd Init Edge n k D L) (hk : n < k) (hin : ∀ x, Rch Init Edge x → x < n) : L = rchL Init Edge n := by
  obtain ⟨h1, h2, h3⟩ := h
  have hc : L.count true ≤ n := by rw [← h1]; exact List.count_le_length
  refine rch_done h1 hin h2 ?_
  rcases h3 with h3 | h3 | h3
  · exact h3
  · omega
  · omega
theorem Rnd.start {D : List Bool → Prop} (h0 : ∀ L, D L) : Rnd Init Edge n 0 D (List.replicate n false) :=
  ⟨by simp, fun x hx => by simp [List.getElem?_replicate] at hx, .inr (.inr ⟨by omega, h0 _⟩)⟩

/-- By a list of what is still to do. -/
structure Fld (Init : Nat → Prop) (Edge : Nat → Nat → Prop) (n : Nat) (X : Nat → Prop) (L : List Bool) (todo : List Nat) : Prop where
  len : L.length = n
  sound : SoundL Init Edge L
  sub : ∀ x ∈ todo, L[x]? = some true
  edge : ∀ x p, L[x]? = some true → x ∉ todo → ¬ X x → Edge x p → p < n → L[p]? = some true
theorem Fld.done {todo : List Nat} {X : Nat → Prop} (h : Fld Init Edge n X L todo) (ht : todo = []) (hX : ∀ x, ¬ X x) (hi : ∀ x, Init x → L[x]? = some true) (hin : ∀ x, Rch Init Edge x → x < n) : L = rchL Init Edge n :=
  rch_done h.len hin h.sound fun x hx hj => by
    rcases hj with hj | ⟨y, h1, h2⟩
    · exact hi x hj
    · exact h.edge y x h1 (by simp [ht]) (hX y) h2 (by rw [← h.len]; exact hx)
/-- The last of the list is taken. -/
theorem Fld.take {todo : List Nat} {q : Nat} (h : Fld Init Edge n (fun _ => False) L (todo ++ [q])) : L[q]? = some true ∧ Fld Init Edge n (fun x => x = q) L todo :=
  ⟨h.sub q (by simp), h.len, h.sound, fun x hx => h.sub x (by simp [hx]), fun x p h1 h2 h3 h4 h5 => h.edge x p h1 (by simp [h2]; exact h3) (by simp) h4 h5⟩
theorem Fld.push {todo : List Nat} {q p : Nat} (h : Fld Init Edge n (fun x => x = q) L todo) (hq : L[q]? = some true) (he : Edge q p) (hp : L[p]? = some false) : Fld Init Edge n (fun x => x = q) (L.set p true) (todo ++ [p]) := by
  have hpn : p < L.length := (List.getElem?_eq_some_iff.1 hp).1
  refine ⟨by simpa using h.len, sound_set h.sound (.inr ⟨q, hq, he⟩), fun x hx => ?_, fun x r h1 h2 h3 h4 h5 => ?_⟩
  · rcases List.mem_append.1 hx with h1 | h1
    · exact set_true_get (h.sub x h1)
    · obtain rfl : x = p := by simpa using h1
      rw [List.getElem?_set_self hpn]
  · have hxp : x ≠ p := by rintro rfl; exact h2 (by simp)
    rcases set_true_inv h1 with e | h1
    · exact absurd e hxp
    · exact set_true_get (h.edge x r h1 (fun hm => h2 (by simp [hm])) h3 h4 h5)
theorem Fld.settle {todo : List Nat} {q : Nat} (h : Fld Init Edge n (fun x => x = q) L todo) (hq : ∀ p, Edge q p → p < n → L[p]? = some true) : Fld Init Edge n (fun _ => False) L todo :=
  ⟨h.len, h.sound, h.sub, fun x p h1 h2 _ h4 h5 => by
    by_cases e : x = q
    · subst e; exact hq p h4 h5
    · exact h.edge x p h1 h2 e h4 h5⟩
theorem Fld.start {todo : List Nat} (hl : L.length = n) (h1 : ∀ x, L[x]? = some true ↔ x ∈ todo) (h2 : ∀ x ∈ todo, Init x) : Fld Init Edge n (fun _ => False) L todo :=
  ⟨hl, fun x hx => .init x (h2 x ((h1 x).1 hx)), fun x hx => (h1 x).2 hx, fun x p h3 h4 _ _ _ => absurd ((h1 x).1 h3) h4⟩
end

/-- Ahead: from the start, along the arcs. -/
def aInit (m : Mach) (q : Nat) : Prop := m.start = (q : Int) ∧ q < m.states.length
def aEdge (m : Mach) (q p : Nat) : Prop := ∃ s a, m.states[q]? = some s ∧ a ∈ s.arcs ∧ a.t = (p : Int)
/-- Back: from the ends, against them. -/
def bInit (m : Mach) (q : Nat) : Prop := ∃ s, m.states[q]? = some s ∧ s.fin ≠ 1000000001
def bEdge (m : Mach) (q p : Nat) : Prop := ∃ s a, m.states[p]? = some s ∧ a ∈ s.arcs ∧ a.t = (q : Int)
noncomputable def aheadL (m : Mach) : List Bool := if machE m = 0 then rchL (aInit m) (aEdge m) m.states.length else []
noncomputable def backL (m : Mach) : List Bool := if machE m = 0 then rchL (bInit m) (bEdge m) m.states.length else []
theorem arcN_mem : ∀ (l : List St) (s : St), s ∈ l → s.arcs.length ≤ arcN l
  | [], s, h => by cases h
  | y :: l, s, h => by
    rcases List.mem_cons.1 h with rfl | h
    · simp [arcN]
    · have := arcN_mem l s h
      simp [arcN] at this ⊢
      omega
abbrev arV2 (a : Ar) : List V := (arD a).map V.d
abbrev stV2 (s : St) : List V := (stD s).map V.d
abbrev encN (x : Nat) : List D := [.p (.int .i64 (x : Int))]
/-- The first k changed, the others as they were. -/
def part {α : Type} (f : α → α) (k : Nat) (l : List α) : List α := (l.take k).map f ++ l.drop k
theorem part_len {α : Type} (f : α → α) (k : Nat) (l : List α) : (part f k l).length = l.length := by simp [part]; omega
theorem part_get {α : Type} {f : α → α} {k : Nat} {l : List α} {x : α} (h : l[k]? = some x) : (part f k l)[k]? = some x := by
  have hk := (List.getElem?_eq_some_iff.1 h).1
  unfold part
  rw [List.getElem?_append_right (by simp; omega)]
  simp only [List.length_map, List.length_take, Nat.min_eq_left (Nat.le_of_lt hk), Nat.sub_self]
  simpa using h
theorem part_set {α : Type} {f : α → α} {k : Nat} {l : List α} {x : α} (h : l[k]? = some x) : (part f k l).set k (f x) = part f (k + 1) l := by
  have hk := (List.getElem?_eq_some_iff.1 h).1
  unfold part
  rw [List.set_append_right _ _ (by simp; omega)]
  simp only [List.length_map, List.length_take, Nat.min_eq_left (Nat.le_of_lt hk), Nat.sub_self]
  have hd : l.drop k = x :: l.drop (k + 1) := by
    rw [List.drop_eq_getElem_cons hk]
    congr 1
    exact (List.getElem?_eq_some_iff.1 h).2
  rw [hd, List.set_cons_zero, List.take_add_one, h]
  simp
theorem part_skip {α : Type} {f : α → α} {k : Nat} {l : List α} {x : α} (h : l[k]? = some x) (hx : f x = x) : part f k l = part f (k + 1) l := by
  rw [← part_set h, hx]
  refine List.ext_getElem? fun i => ?_
  rw [List.getElem?_set]
  split
  · rename_i e
    subst e
    have := part_get (f := f) h
    rw [if_pos (List.getElem?_eq_some_iff.1 this).1, this]
  · rfl
theorem part_zero {α : Type} (f : α → α) (l : List α) : part f 0 l = l := by simp [part]
theorem part_full {α : Type} (f : α → α) {l : List α} {k : Nat} (hk : l.length ≤ k) : part f k l = l.map f := by simp [part, List.take_of_length_le hk, List.drop_of_length_le hk]
theorem count_clear : ∀ (L : List Bool) {x : Nat}, L[x]? = some true → (L.set x false).count true + 1 = L.count true
  | [], x, h => by simp at h
  | b :: L, 0, h => by simp at h; subst h; simp
  | b :: L, x + 1, h => by
    have := count_clear L (x := x) (by simpa using h)
    cases b <;> simp <;> omega
def bl {α : Type} (g : Nat → α) (n : Nat) : List α := (List.range n).map g
theorem bl_len {α : Type} (g : Nat → α) (n : Nat) : (bl g n).length = n := by simp [bl]
theorem bl_get {α : Type} {g : Nat → α} {n q : Nat} (h : q < n) : (bl g n)[q]? = some (g q) := by simp [bl, List.getElem?_range h]
theorem bl_inv {α : Type} {g : Nat → α} {n q : Nat} {x : α} (h : (bl g n)[q]? = some x) : q < n ∧ x = g q := by
  have hq : q < n := by have := (List.getElem?_eq_some_iff.1 h).1; simpa [bl] using this
  rw [bl_get hq] at h
  exact ⟨hq, by simpa using h.symm⟩
theorem bl_set {α : Type} {g g' : Nat → α} {n p : Nat} {x : α} (h : p < n) (hx : g' p = x) (ho : ∀ q, q < n → q ≠ p → g q = g' q) : (bl g n).set p x = bl g' n := by
  refine List.ext_getElem? fun i => ?_
  rw [List.getElem?_set]
  by_cases e : p = i
  · subst e
    rw [if_pos rfl, if_pos (by rw [bl_len]; exact h), bl_get h, hx]
  · rw [if_neg e]
    by_cases hi : i < n
    · rw [bl_get hi, bl_get hi, ho i hi (Ne.symm e)]
    · rw [List.getElem?_eq_none (by rw [bl_len]; omega), List.getElem?_eq_none (by rw [bl_len]; omega)]
theorem bl_congr {α : Type} {g g' : Nat → α} {n : Nat} (h : ∀ q, q < n → g q = g' q) : bl g n = bl g' n := List.map_congr_left fun q hq => h q (List.mem_range.1 hq)
theorem bl_rep {α : Type} (n : Nat) (x : α) : List.replicate n x = bl (fun _ => x) n := by
  refine List.ext_getElem? fun i => ?_
  by_cases hi : i < n
  · rw [bl_get hi]; simp [List.getElem?_replicate, hi]
  · rw [List.getElem?_eq_none (by simp; omega), List.getElem?_eq_none (by rw [bl_len]; omega)]

def stA (sts : List St) (q : Nat) : List Ar := (sts.getD q ⟨0, []⟩).arcs
theorem stA_of {sts : List St} {q : Nat} {x : St} (h : sts[q]? = some x) : stA sts q = x.arcs := by simp [stA, List.getD_eq_getElem?_getD, h]
end Go.Proofs.Ythlcginebeapdaa
