/- How many ways to an end cost no more than so much, by rounds: after enough rounds nothing changes any more. And lists of costs that rise, of which the n first are kept. -/
import Derived.Test.YtnpbdcjfealoeaaBst
import Derived.Test.YtnpbdcjfealoeaaAmP
namespace Go.Proofs.Ytnpbdcjfealoeaa
open Go.RowKit
set_option linter.unusedSimpArgs false
set_option linter.unusedVariables false

def shf (g : Nat → Nat) (w c : Nat) : Nat := if w ≤ c then g (c - w) else 0
def finC (s : St) (c : Nat) : Nat := if s.fin ≠ 1000000001 ∧ s.fin ≤ (c : Int) then 1 else 0
def arcC (f : Nat → Nat → Nat) (l : List Ar) (c : Nat) : Nat := (l.map fun a => shf (f a.t.toNat) a.w.toNat c).sum
def stepC (N : Nat) (sts : List St) (f : Nat → Nat → Nat) (q c : Nat) : Nat :=
  match sts[q]? with
  | some s => min N (finC s c + arcC f s.arcs c)
  | none => 0
def cntC (N : Nat) (sts : List St) : Nat → Nat → Nat → Nat
  | 0 => fun _ _ => 0
  | k + 1 => stepC N sts (cntC N sts k)
section
variable {N : Nat} {sts : List St} {f g : Nat → Nat → Nat} {l : List Ar} {k q c v : Nat}
theorem arcC_cons (a : Ar) : arcC f (a :: l) c = shf (f a.t.toNat) a.w.toNat c + arcC f l c := by simp [arcC]
theorem arcC_mono (h : ∀ p u, f p u ≤ g p u) : ∀ l : List Ar, arcC f l c ≤ arcC g l c
  | [] => Nat.le_refl _
  | a :: l => by
    rw [arcC_cons, arcC_cons]
    refine Nat.add_le_add ?_ (arcC_mono h l)
    unfold shf; split
    · exact h _ _
    · exact Nat.le_refl _
theorem arcC_mono2 (h : ∀ p u u', u ≤ u' → f p u ≤ f p u') (hc : c ≤ v) : ∀ l : List Ar, arcC f l c ≤ arcC f l v
  | [] => Nat.le_refl _
  | a :: l => by
    rw [arcC_cons, arcC_cons]
    refine Nat.add_le_add ?_ (arcC_mono2 h hc l)
    unfold shf; split
    · rw [if_pos (by omega)]; exact h _ _ _ (by omega)
    · exact Nat.zero_le _
theorem arcC_congr (h : ∀ p u, u ≤ c → f p u = g p u) : ∀ l : List Ar, arcC f l c = arcC g l c
  | [] => rfl
  | a :: l => by
    rw [arcC_cons, arcC_cons, arcC_congr h l]
    congr 1
    unfold shf; split
    · exact h _ _ (by omega)
    · rfl
theorem arcC_pos : ∀ {l : List Ar}, 1 ≤ arcC f l c → ∃ a ∈ l, a.w.toNat ≤ c ∧ 1 ≤ f a.t.toNat (c - a.w.toNat)
  | [], h => by simp [arcC] at h
  | a :: l, h => by
    rw [arcC_cons] at h
    by_cases h1 : 1 ≤ shf (f a.t.toNat) a.w.toNat c
    · refine ⟨a, by simp, ?_⟩
      unfold shf at h1
      split at h1
      · rename_i h2; exact ⟨h2, h1⟩
      · omega
    · obtain ⟨b, hb, h2⟩ := arcC_pos (l := l) (by omega)
      exact ⟨b, by simp [hb], h2⟩
theorem arcC_mem : ∀ {l : List Ar} {a : Ar}, a ∈ l → shf (f a.t.toNat) a.w.toNat c ≤ arcC f l c
  | b :: l, a, h => by
    rw [arcC_cons]
    rcases List.mem_cons.1 h with rfl | h
    · omega
    · have := arcC_mem h; omega
theorem cntC_le : ∀ k q c, cntC N sts k q c ≤ N
  | 0, _, _ => Nat.zero_le _
  | k + 1, q, c => by
    show stepC _ _ _ _ _ ≤ _
    unfold stepC
    split
    · exact Nat.min_le_left _ _
    · exact Nat.zero_le _
theorem stepC_mono (h : ∀ p u, f p u ≤ g p u) : stepC N sts f q c ≤ stepC N sts g q c := by
  unfold stepC
  split
  · rename_i s _
    have := arcC_mono (c := c) h s.arcs
    omega
  · exact Nat.le_refl _
theorem cntC_up : ∀ k q c, cntC N sts k q c ≤ cntC N sts (k + 1) q c
  | 0, _, _ => Nat.zero_le _
  | k + 1, q, c => stepC_mono fun p u => cntC_up k p u
theorem cntC_monoK {k k' : Nat} (h : k ≤ k') : cntC N sts k q c ≤ cntC N sts k' q c := by
  induction h with
  | refl => exact Nat.le_refl _
  | step _ ih => exact Nat.le_trans ih (cntC_up _ _ _)
theorem cntC_monoC : ∀ k q (c c' : Nat), c ≤ c' → cntC N sts k q c ≤ cntC N sts k q c'
  | 0, _, _, _, _ => Nat.le_refl _
  | k + 1, q, c, c', h => by
    show stepC _ _ _ _ _ ≤ stepC _ _ _ _ _
    unfold stepC
    split
    · rename_i s _
      have h1 := arcC_mono2 (f := cntC N sts k) (fun p u u' hu => cntC_monoC k p u u' hu) h s.arcs
      have h2 : finC s c ≤ finC s c' := by unfold finC; split <;> split <;> omega
      omega
    · exact Nat.le_refl _
/-- At this threshold nothing changes any more. -/
def ClC (N : Nat) (sts : List St) (k v : Nat) : Prop := ∀ q k', k ≤ k' → cntC N sts k' q v = cntC N sts k q v
theorem ClC.succ (h : ClC N sts k v) : ClC N sts (k + 1) v := fun q k' hk => (h q k' (by omega)).trans (h q (k + 1) (by omega)).symm
theorem ClC.fix (h1 : ∀ u, u < v → ClC N sts k u) (h2 : ∀ q, cntC N sts (k + 1) q v = cntC N sts k q v) : ClC N sts k v := by
  have h : ∀ j q, cntC N sts (k + j) q v = cntC N sts k q v := by
    intro j
    induction j with
    | zero => intro q; rfl
    | succ j ih =>
      intro q
      rw [← h2 q]
      show stepC _ _ (cntC N sts (k + j)) _ _ = stepC _ _ (cntC N sts k) _ _
      unfold stepC
      split
      · rename_i s _
        rw [arcC_congr (f := cntC N sts (k + j)) (g := cntC N sts k) fun p u hu => ?_]
        by_cases e : u = v
        · subst e; exact ih p
        · exact h1 u (by omega) p (k + j) (by omega)
      · rfl
  intro q k' hk
  have := h (k' - k) q
  rwa [show k + (k' - k) = k' by omega] at this
def potC (N : Nat) (sts : List St) (k v : Nat) : Nat := ((List.range sts.length).map fun q => cntC N sts k q v).sum
theorem sum_le_of {α : Type} {f g : α → Nat} : ∀ {l : List α}, (∀ x ∈ l, f x ≤ g x) → (l.map f).sum ≤ (l.map g).sum
  | [], _ => Nat.le_refl _
  | x :: l, h => by
    have h1 := h x (by simp)
    have h2 := sum_le_of (l := l) fun y hy => h y (by simp [hy])
    simp only [List.map_cons, List.sum_cons]; omega
theorem sum_lt_of {α : Type} {f g : α → Nat} : ∀ {l : List α}, (∀ x ∈ l, f x ≤ g x) → (∃ x ∈ l, f x < g x) → (l.map f).sum + 1 ≤ (l.map g).sum
  | [], _, h => by obtain ⟨x, hx, _⟩ := h; cases hx
  | x :: l, h, ⟨y, hy, hlt⟩ => by
    have h1 := h x (by simp)
    have h2 := sum_le_of (l := l) fun y hy => h y (by simp [hy])
    simp only [List.map_cons, List.sum_cons]
    rcases List.mem_cons.1 hy with rfl | hy
    · omega
    · have := sum_lt_of (l := l) (fun y hy => h y (by simp [hy])) ⟨y, hy, hlt⟩
      omega
theorem sum_const {α : Type} {f : α → Nat} {b : Nat} : ∀ {l : List α}, (∀ x ∈ l, f x ≤ b) → (l.map f).sum ≤ l.length * b
  | [], _ => by simp
  | x :: l, h => by
    have h1 := h x (by simp)
    have h2 := sum_const (l := l) fun y hy => h y (by simp [hy])
    simp only [List.map_cons, List.sum_cons, List.length_cons, Nat.add_mul, Nat.one_mul]; omega
theorem cntC_out (h : sts.length ≤ q) : ∀ k, cntC N sts k q c = 0
  | 0 => rfl
  | k + 1 => by
    show stepC _ _ _ _ _ = 0
    unfold stepC
    rw [List.getElem?_eq_none h]
theorem potC_le : potC N sts k v ≤ sts.length * N := by
  have := sum_const (f := fun q => cntC N sts k q v) (b := N) (l := List.range sts.length) fun q _ => cntC_le k q v
  simpa [potC] using this
theorem clC_pot : ∀ k v, (∀ u, u < v → ClC N sts k u) → ¬ ClC N sts k v → k ≤ potC N sts k v
  | 0, _, _, _ => Nat.zero_le _
  | k + 1, v, h1, h2 => by
    have h3 : ¬ ClC N sts k v := fun h => h2 h.succ
    obtain ⟨u, hu, hmin⟩ := least_nat (p := fun u => ¬ ClC N sts k u) ⟨v, h3⟩
    have huv := hmin v h3
    have hlow : ∀ u', u' < u → ClC N sts k u' := fun u' hu' => Classical.byContradiction fun h => by have := hmin u' h; omega
    have ih := clC_pot k u hlow hu
    have hne : ¬ ∀ q, cntC N sts (k + 1) q u = cntC N sts k q u := fun h => hu (ClC.fix hlow h)
    obtain ⟨q, hq⟩ := Classical.not_forall.1 hne
    have hqs : q < sts.length := by
      refine Classical.byContradiction fun h => hq ?_
      rw [cntC_out (by omega), cntC_out (by omega)]
    have h4 : potC N sts k u + 1 ≤ potC N sts (k + 1) u := sum_lt_of (fun x _ => cntC_up k x u) ⟨q, List.mem_range.2 hqs, by have := cntC_up (N := N) (sts := sts) k q u; omega⟩
    have h5 : potC N sts (k + 1) u ≤ potC N sts (k + 1) v := sum_le_of fun x _ => cntC_monoC (k + 1) x u v huv
    omega
theorem clC_all (hk : sts.length * N + 1 ≤ k) (v : Nat) : ClC N sts k v := by
  refine Classical.byContradiction fun h => ?_
  obtain ⟨u, hu, hmin⟩ := least_nat (p := fun u => ¬ ClC N sts k u) ⟨v, h⟩
  have h1 := clC_pot k u (fun u' hu' => Classical.byContradiction fun h => by have := hmin u' h; omega) hu
  have h2 := potC_le (N := N) (sts := sts) (k := k) (v := u)
  omega
end

/-- What is known of a machine whose costs to an end are all within bounds. -/
structure KG (sts : List St) (I : Nat → Nat → Prop) (G : Nat → Nat → Nat → Prop) : Prop where
  ini : ∀ {q d : Nat}, I q d ↔ ∃ s : St, sts[q]? = some s ∧ s.fin = (d : Int) ∧ d ≠ 1000000001
  edge : ∀ {p q w : Nat}, G p q w ↔ ∃ (x : St) (j : Nat) (a : Ar), sts[q]? = some x ∧ x.arcs[j]? = some a ∧ a.t = (p : Int) ∧ a.w = (w : Int)
  low : ∀ q, dst I G q < big → dst I G q ≤ 1000000000
  fin : ∀ s ∈ sts, s.fin = 1000000001 ∨ 0 ≤ s.fin ∧ s.fin ≤ 1000000000
  arc : ∀ s ∈ sts, ∀ a ∈ s.arcs, (0 ≤ a.t ∧ a.t < sts.length) ∧ 0 ≤ a.w ∧ a.w ≤ 1000000000
/-- The numbers of ways. -/
structure Ed (N : Nat) (sts : List St) (I : Nat → Nat → Prop) (G : Nat → Nat → Nat → Prop) (E : Nat → Nat → Nat) : Prop where
  fix : ∀ q v, E q v = stepC N sts E q v
  zero : ∀ q v, v < big → 1 ≤ E q v → dst I G q ≤ v
  pos : ∀ q v, 1 ≤ N → dst I G q < big → dst I G q ≤ v → 1 ≤ E q v
  le : ∀ q v, E q v ≤ N
section
variable {N : Nat} {sts : List St} {I : Nat → Nat → Prop} {G : Nat → Nat → Nat → Prop}
theorem pos_path (h : KG sts I G) : ∀ (k q c : Nat), 1 ≤ cntC N sts k q c → ∃ d, d ≤ c ∧ Pth I G q d
  | 0, _, _, h1 => by simp [cntC] at h1
  | k + 1, q, c, h1 => by
    have h2 : 1 ≤ stepC N sts (cntC N sts k) q c := h1
    unfold stepC at h2
    split at h2
    · rename_i s hs
      by_cases hf : 1 ≤ finC s c
      · unfold finC at hf
        split at hf
        · rename_i h3
          have h4 := h.fin s (List.mem_of_getElem? hs)
          exact ⟨s.fin.toNat, by omega, .init _ _ (h.ini.2 ⟨s, hs, by omega, by omega⟩)⟩
        · omega
      · obtain ⟨a, ha, h3, h4⟩ := arcC_pos (f := cntC N sts k) (l := s.arcs) (c := c) (by omega)
        obtain ⟨d, h5, h6⟩ := pos_path h k _ _ h4
        obtain ⟨j, hj⟩ := List.getElem?_of_mem ha
        have h7 := h.arc s (List.mem_of_getElem? hs) a ha
        exact ⟨d + a.w.toNat, by omega, .step a.t.toNat q d a.w.toNat h6 (h.edge.2 ⟨s, j, a, hs, hj, by omega, by omega⟩)⟩
    · omega
theorem path_pos (h : KG sts I G) (hN : 1 ≤ N) {q d : Nat} (hp : Pth I G q d) : ∃ k, ∀ c, d ≤ c → 1 ≤ cntC N sts k q c := by
  induction hp with
  | init q d hi =>
    obtain ⟨s, hs, h1, h2⟩ := h.ini.1 hi
    refine ⟨1, fun c hc => ?_⟩
    show 1 ≤ stepC _ _ _ _ _
    unfold stepC
    rw [hs]
    have : finC s c = 1 := by unfold finC; rw [if_pos (by omega)]
    simp only
    omega
  | step q p d w hq e ih =>
    obtain ⟨k, hk⟩ := ih
    obtain ⟨s, j, a, hs, hj, h1, h2⟩ := h.edge.1 e
    refine ⟨k + 1, fun c hc => ?_⟩
    show 1 ≤ stepC _ _ _ _ _
    unfold stepC
    rw [hs]
    have h3 := arcC_mem (f := cntC N sts k) (c := c) (List.mem_of_getElem? hj)
    have h4 : 1 ≤ shf (cntC N sts k a.t.toNat) a.w.toNat c := by
      unfold shf
      rw [if_pos (by omega), show a.t.toNat = q by omega]
      exact hk _ (by omega)
    simp only
    omega
theorem ed_of (h : KG sts I G) {R : Nat} (hR : sts.length * N + 1 ≤ R) : Ed N sts I G (cntC N sts R) := by
  refine ⟨fun q v => ((clC_all hR v) q (R + 1) (by omega)).symm, fun q v hv h1 => ?_, fun q v hN hd hv => ?_, fun q v => cntC_le R q v⟩
  · obtain ⟨d, h2, h3⟩ := pos_path h R q v h1
    have := (dst_spec (Init := I) (Edge := G) q).2.2 d h3
    omega
  · obtain ⟨k, hk⟩ := path_pos h hN ((dst_spec (Init := I) (Edge := G) q).2.1 hd)
    have h1 := hk v hv
    by_cases hkR : k ≤ R
    · exact Nat.le_trans h1 (cntC_monoK hkR)
    · rw [(clC_all hR v) q k (by omega)] at h1
      exact h1
end

def cnt (l : List Nat) (c : Nat) : Nat := (l.filter fun x => decide (x ≤ c)).length
theorem cnt_nil (v : Nat) : cnt [] v = 0 := rfl
theorem cnt_cons (x : Nat) (l : List Nat) (v : Nat) : cnt (x :: l) v = (if x ≤ v then 1 else 0) + cnt l v := by
  unfold cnt
  by_cases h : x ≤ v
  · simp [h]; omega
  · simp [h]
theorem cnt_app (l l' : List Nat) (v : Nat) : cnt (l ++ l') v = cnt l v + cnt l' v := by simp [cnt]
theorem cnt_le (l : List Nat) (v : Nat) : cnt l v ≤ l.length := List.length_filter_le _ _
theorem cnt_all {l : List Nat} {v : Nat} (h : ∀ x ∈ l, x ≤ v) : cnt l v = l.length := by
  unfold cnt
  rw [List.filter_eq_self.2 fun x hx => decide_eq_true (h x hx)]
theorem cnt_zero {l : List Nat} {v : Nat} (h : ∀ x ∈ l, v < x) : cnt l v = 0 := by
  unfold cnt
  rw [List.length_eq_zero_iff, List.filter_eq_nil_iff]
  intro x hx
  have := h x hx
  simp; omega
theorem cnt_ext : ∀ {l l' : List Nat}, l.Pairwise (· ≤ ·) → l'.Pairwise (· ≤ ·) → (∀ x ∈ l, x < big) → (∀ x ∈ l', x < big) → (∀ v, v < big → cnt l v = cnt l' v) → l = l'
  | [], [], _, _, _, _, _ => rfl
  | [], y :: l', _, _, _, hb, h => by
    have := h y (hb y (by simp))
    rw [cnt_nil, cnt_cons, if_pos (Nat.le_refl _)] at this
    omega
  | x :: l, [], _, _, hb, _, h => by
    have := h x (hb x (by simp))
    rw [cnt_nil, cnt_cons, if_pos (Nat.le_refl _)] at this
    omega
  | x :: l, y :: l', hs, hs', hb, hb', h => by
    have key : ∀ {x y : Nat} {l' : List Nat}, (y :: l').Pairwise (· ≤ ·) → 1 ≤ cnt (y :: l') x → y ≤ x := by
      intro x y l' hp hc
      refine Classical.byContradiction fun hlt => ?_
      have : cnt (y :: l') x = 0 := cnt_zero fun z hz => by
        rcases List.mem_cons.1 hz with rfl | hz
        · omega
        · have := (List.pairwise_cons.1 hp).1 z hz; omega
      omega
    have h1 : y ≤ x := key hs' (by rw [← h x (hb x (by simp)), cnt_cons, if_pos (Nat.le_refl _)]; omega)
    have h2 : x ≤ y := key hs (by rw [h y (hb' y (by simp)), cnt_cons, if_pos (Nat.le_refl _)]; omega)
    obtain rfl : x = y := by omega
    rw [cnt_ext (List.pairwise_cons.1 hs).2 (List.pairwise_cons.1 hs').2 (fun z hz => hb z (by simp [hz])) (fun z hz => hb' z (by simp [hz])) fun v hv => by
      have := h v hv
      rw [cnt_cons, cnt_cons] at this
      omega]
/-- A cost comes in. -/
def ins (c : Nat) : List Nat → List Nat
  | [] => [c]
  | x :: l => if c < x then c :: x :: l else x :: ins c l
theorem ins_cnt (c v : Nat) : ∀ l : List Nat, cnt (ins c l) v = cnt l v + if c ≤ v then 1 else 0
  | [] => by simp [ins, cnt_cons, cnt_nil]
  | x :: l => by
    unfold ins
    split
    · rw [cnt_cons]; omega
    · rw [cnt_cons, cnt_cons, ins_cnt c v l]; omega
theorem ins_mem {c x : Nat} : ∀ {l : List Nat}, x ∈ ins c l ↔ x = c ∨ x ∈ l
  | [] => by simp [ins]
  | y :: l => by
    unfold ins
    split
    · simp
    · simp only [List.mem_cons, ins_mem (l := l)]
      constructor
      · rintro (h | h | h) <;> simp [h]
      · rintro (h | h | h) <;> simp [h]
theorem ins_sorted {c : Nat} : ∀ {l : List Nat}, l.Pairwise (· ≤ ·) → (ins c l).Pairwise (· ≤ ·)
  | [], _ => by simp [ins]
  | y :: l, h => by
    have h1 := List.pairwise_cons.1 h
    unfold ins
    split
    · refine List.pairwise_cons.2 ⟨fun z hz => ?_, h⟩
      rcases List.mem_cons.1 hz with rfl | hz
      · omega
      · have := h1.1 z hz; omega
    · refine List.pairwise_cons.2 ⟨fun z hz => ?_, ins_sorted h1.2⟩
      rcases ins_mem.1 hz with rfl | hz
      · omega
      · exact h1.1 z hz
theorem ins_len (c : Nat) : ∀ l : List Nat, (ins c l).length = l.length + 1
  | [] => rfl
  | x :: l => by
    unfold ins
    split
    · simp
    · simp [ins_len c l]
theorem ins_lt {c : Nat} {B : List Nat} : ∀ {A : List Nat}, (∃ y ∈ A, c < y) → ins c (A ++ B) = ins c A ++ B
  | [], h => by obtain ⟨y, hy, _⟩ := h; cases hy
  | x :: A, h => by
    simp only [List.cons_append, ins]
    split
    · simp
    · rename_i hx
      obtain ⟨y, hy, hlt⟩ := h
      rcases List.mem_cons.1 hy with rfl | hy
      · exact absurd hlt hx
      · rw [ins_lt ⟨y, hy, hlt⟩]; simp
theorem ins_ge {c : Nat} {B : List Nat} : ∀ {A : List Nat}, (∀ y ∈ A, ¬ c < y) → ins c (A ++ B) = A ++ ins c B
  | [], _ => rfl
  | x :: A, h => by
    simp only [List.cons_append, ins]
    rw [if_neg (h x (by simp)), ins_ge fun y hy => h y (by simp [hy])]
theorem take_cnt {v : Nat} : ∀ {N : Nat} {l : List Nat}, l.Pairwise (· ≤ ·) → cnt (l.take N) v = min N (cnt l v)
  | 0, l, _ => by simp [cnt_nil]
  | N + 1, [], _ => by simp [cnt_nil]
  | N + 1, x :: l, h => by
    have h1 := List.pairwise_cons.1 h
    rw [List.take_succ_cons, cnt_cons, cnt_cons, take_cnt h1.2]
    by_cases hx : x ≤ v
    · simp only [hx, if_true]; omega
    · have : cnt l v = 0 := cnt_zero fun z hz => by have := h1.1 z hz; omega
      simp only [hx, if_false, this]; omega
def insN (N : Nat) (l : List Nat) (c : Nat) : List Nat := (ins c l).take N
/-- A list that tells numbers of ways, but no more than N. -/
structure Rp (N : Nat) (l : List Nat) (g : Nat → Nat) : Prop where
  srt : l.Pairwise (· ≤ ·)
  len : l.length ≤ N
  cnt : ∀ v, cnt l v = min N (g v)
theorem Rp.ins {N c : Nat} {l : List Nat} {g : Nat → Nat} (h : Rp N l g) : Rp N (insN N l c) (fun v => g v + if c ≤ v then 1 else 0) := by
  refine ⟨List.Pairwise.sublist (List.take_sublist _ _) (ins_sorted h.srt), by unfold insN; rw [List.length_take]; omega, fun v => ?_⟩
  unfold insN
  rw [take_cnt (ins_sorted h.srt), ins_cnt, h.cnt v]
  omega
def foldA (N w : Nat) (l A : List Nat) : List Nat := A.foldl (fun l x => insN N l (x + w)) l
theorem foldA_rp {N w : Nat} : ∀ {A l : List Nat} {g : Nat → Nat}, Rp N l g → Rp N (foldA N w l A) (fun v => g v + shf (Go.Proofs.Ytnpbdcjfealoeaa.cnt A) w v)
  | [], l, g, h => ⟨h.srt, h.len, fun v => by rw [show foldA N w l [] = l from rfl, h.cnt v]; simp [shf, cnt_nil]⟩
  | x :: A, l, g, h => by
    have h1 := foldA_rp (w := w) (A := A) (h.ins (c := x + w))
    refine ⟨h1.srt, h1.len, fun v => ?_⟩
    rw [show foldA N w l (x :: A) = foldA N w (insN N l (x + w)) A from rfl, h1.cnt v]
    have : shf (Go.Proofs.Ytnpbdcjfealoeaa.cnt (x :: A)) w v = (if x + w ≤ v then 1 else 0) + shf (Go.Proofs.Ytnpbdcjfealoeaa.cnt A) w v := by
      unfold shf
      by_cases hw : w ≤ v
      · rw [if_pos hw, if_pos hw, cnt_cons]
        by_cases hx : x + w ≤ v
        · rw [if_pos hx, if_pos (by omega)]
        · rw [if_neg hx, if_neg (by omega)]
      · rw [if_neg hw, if_neg hw, if_neg (by omega)]
    rw [this]
    omega
def begF (N : Nat) (s : St) : List Nat := if s.fin = 1000000001 then [] else insN N [] s.fin.toNat
def foldS (N : Nat) (now : Nat → List Nat) (l : List Nat) (L : List Ar) : List Nat := L.foldl (fun l a => foldA N a.w.toNat l (now a.t.toNat)) l
theorem foldS_rp {N : Nat} {now : Nat → List Nat} {f : Nat → Nat → Nat} (hn : ∀ q v, cnt (now q) v = f q v) : ∀ {L : List Ar} {l : List Nat} {g : Nat → Nat}, Rp N l g → Rp N (foldS N now l L) (fun v => g v + arcC f L v)
  | [], l, g, h => ⟨h.srt, h.len, fun v => by rw [show foldS N now l [] = l from rfl, h.cnt v]; simp [arcC]⟩
  | a :: L, l, g, h => by
    have h1 := foldS_rp hn (L := L) (foldA_rp (w := a.w.toNat) (A := now a.t.toNat) h)
    refine ⟨h1.srt, h1.len, fun v => ?_⟩
    rw [show foldS N now l (a :: L) = foldS N now (foldA N a.w.toNat l (now a.t.toNat)) L from rfl, h1.cnt v, arcC_cons]
    have : shf (cnt (now a.t.toNat)) a.w.toNat v = shf (f a.t.toNat) a.w.toNat v := by unfold shf; rw [hn]
    rw [this]
    omega
def rlC (N : Nat) (sts : List St) : Nat → Nat → List Nat
  | 0, _ => []
  | k + 1, q => match sts[q]? with
    | some s => foldS N (rlC N sts k) (begF N s) s.arcs
    | none => []
theorem begF_rp {N : Nat} {s : St} (h : s.fin = 1000000001 ∨ 0 ≤ s.fin ∧ s.fin ≤ 1000000000) : Rp N (begF N s) (finC s) := by
  have h0 : Rp N [] (fun _ => 0) := ⟨List.Pairwise.nil, Nat.zero_le _, fun v => by simp [cnt_nil]⟩
  unfold begF
  by_cases e : s.fin = 1000000001
  · rw [if_pos e]
    refine ⟨h0.srt, h0.len, fun v => ?_⟩
    rw [cnt_nil]; unfold finC; rw [if_neg (by simp [e])]; exact (Nat.min_zero _).symm
  · rw [if_neg e]
    have h1 := h0.ins (c := s.fin.toNat)
    refine ⟨h1.srt, h1.len, fun v => ?_⟩
    rw [h1.cnt v]
    unfold finC
    by_cases e2 : s.fin.toNat ≤ v
    · rw [if_pos e2, if_pos (by omega)]
    · rw [if_neg e2, if_neg (by omega)]
theorem rlC_rp {N : Nat} {sts : List St} (hf : ∀ s ∈ sts, s.fin = 1000000001 ∨ 0 ≤ s.fin ∧ s.fin ≤ 1000000000) : ∀ k q, Rp N (rlC N sts k q) (cntC N sts k q)
  | 0, q => ⟨List.Pairwise.nil, Nat.zero_le _, fun v => by simp [rlC, cntC, cnt_nil]⟩
  | k + 1, q => by
    have ih : ∀ q v, cnt (rlC N sts k q) v = cntC N sts k q v := fun q v => by
      rw [(rlC_rp hf k q).cnt v]
      exact Nat.min_eq_right (cntC_le k q v)
    cases hs : sts[q]? with
    | none =>
      have h1 : rlC N sts (k + 1) q = [] := by simp only [rlC, hs]
      rw [h1]
      refine ⟨List.Pairwise.nil, Nat.zero_le _, fun v => ?_⟩
      rw [cntC_out (List.getElem?_eq_none_iff.1 hs)]; simp [cnt_nil]
    | some s =>
      have h1 : rlC N sts (k + 1) q = foldS N (rlC N sts k) (begF N s) s.arcs := by simp only [rlC, hs]
      have h2 := foldS_rp ih (L := s.arcs) (begF_rp (N := N) (hf s (List.mem_of_getElem? hs)))
      rw [h1]
      refine ⟨h2.srt, h2.len, fun v => ?_⟩
      have h3 : cntC N sts (k + 1) q v = min N (finC s v + arcC (cntC N sts k) s.arcs v) := by
        show stepC _ _ _ _ _ = _
        unfold stepC
        rw [hs]
      rw [h2.cnt v, h3]
      omega
end Go.Proofs.Ytnpbdcjfealoeaa
