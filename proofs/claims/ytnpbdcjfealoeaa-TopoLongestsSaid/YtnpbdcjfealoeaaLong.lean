/- How long the longest path is: forward along an order and backward it is the same (0: there is none, k + 1: k arcs). -/
import Derived.Test.YtnpbdcjfealoeaaPaths
namespace Go.Proofs.Ytnpbdcjfealoeaa
open Go.RowKit
set_option linter.unusedSimpArgs false
set_option linter.unusedVariables false

def cmb (a b : Nat) : Nat := if a = 0 then 0 else if b = 0 then 0 else a + b - 1
def inc (b : Nat) : Nat := if b = 0 then 0 else b + 1
def mxl : List Nat → Nat
  | [] => 0
  | x :: l => max x (mxl l)
theorem cmb_zero (b : Nat) : cmb 0 b = 0 := by simp [cmb]
theorem cmb_one (b : Nat) : cmb 1 b = b := by unfold cmb; split <;> (try split) <;> omega
theorem cmb_by1 (a : Nat) : cmb a 1 = a := by unfold cmb; split <;> (try split) <;> omega
theorem cmb_by0 (a : Nat) : cmb a 0 = 0 := by unfold cmb; split <;> rfl
theorem cmb_maxl (a b c : Nat) : cmb (max a b) c = max (cmb a c) (cmb b c) := by
  unfold cmb
  by_cases h1 : a = 0 <;> by_cases h2 : b = 0 <;> by_cases h3 : c = 0 <;> simp [h1, h2, h3] <;> omega
theorem cmb_maxr (a b c : Nat) : cmb a (max b c) = max (cmb a b) (cmb a c) := by
  unfold cmb
  by_cases h1 : a = 0 <;> by_cases h2 : b = 0 <;> by_cases h3 : c = 0 <;> simp [h1, h2, h3] <;> omega
theorem cmb_mxl (a : Nat) : ∀ l : List Nat, cmb a (mxl l) = mxl (l.map (cmb a))
  | [] => by simp [mxl, cmb_by0]
  | x :: l => by rw [mxl, cmb_maxr, cmb_mxl a l]; rfl
theorem cmb_inc {a : Nat} (b : Nat) (h : a ≠ 0) : cmb (a + 1) b = cmb a (inc b) := by
  unfold cmb inc
  by_cases h3 : b = 0 <;> simp [h, h3] <;> omega
theorem mxl_zeros {l : List Nat} (h : ∀ x ∈ l, x = 0) : mxl l = 0 := by
  induction l with
  | nil => rfl
  | cons x l ih => rw [mxl, h x (by simp), ih fun y hy => h y (by simp [hy])]; rfl
theorem mxl_app (l l' : List Nat) : mxl (l ++ l') = max (mxl l) (mxl l') := by
  induction l with
  | nil => simp [mxl]
  | cons x l ih => simp only [List.cons_append, mxl, ih]; omega
theorem mxl_le {l : List Nat} {k : Nat} (h : ∀ x ∈ l, x ≤ k) : mxl l ≤ k := by
  induction l with
  | nil => simp [mxl]
  | cons x l ih =>
    have := h x (by simp)
    have := ih fun y hy => h y (by simp [hy])
    simp only [mxl]; omega

/-- The longest way from a state to an end, of at most so many arcs. -/
def mF (sts : List St) : Nat → Nat → Nat
  | 0, _ => 0
  | k + 1, p => max (fin1 (sts.getD p ⟨0, []⟩).fin) (mxl ((stA sts p).map fun a => inc (mF sts k a.t.toNat)))
theorem mF_le (sts : List St) : ∀ k p, mF sts k p ≤ k
  | 0, _ => Nat.le_refl _
  | k + 1, p => by
    have h1 : mxl ((stA sts p).map fun a => inc (mF sts k a.t.toNat)) ≤ k + 1 := mxl_le fun x hx => by
      obtain ⟨a, _, rfl⟩ := List.mem_map.1 hx
      have := mF_le sts k a.t.toNat
      unfold inc
      split <;> omega
    have h2 : fin1 (sts.getD p ⟨0, []⟩).fin ≤ 1 := by unfold fin1; split <;> omega
    simp only [mF]; omega
theorem mF_stable {sts : List St} {n : Nat} {L : List Nat} (h : Ord sts n L) (hz : ∀ s ∈ sts, ∀ a ∈ s.arcs, 0 ≤ a.t ∧ a.t < n) : ∀ (j i p : Nat), L[i]? = some p → n ≤ i + j + 1 → ∀ k, j + 1 ≤ k → mF sts k p = mF sts (j + 1) p := by
  intro j
  induction j using Nat.strongRecOn with
  | _ j ih =>
    intro i p hi hj k hk
    obtain ⟨k, rfl⟩ : ∃ k', k = k' + 1 := ⟨k - 1, by omega⟩
    have hpn : p < sts.length := by rw [h.num]; exact h.lt p (List.mem_of_getElem? hi)
    have hx : sts[p]? = some sts[p] := List.getElem?_eq_getElem hpn
    simp only [mF, stA_of hx]
    congr 2
    refine List.map_congr_left fun a ha => ?_
    obtain ⟨z1, z2⟩ := hz _ (List.getElem_mem hpn) a ha
    obtain ⟨t, ht⟩ : ∃ t : Nat, a.t = t := ⟨a.t.toNat, by omega⟩
    rw [ht, Int.toNat_natCast]
    have hm := (h.later hi hx ha ht (by omega)).2
    obtain ⟨d, hd⟩ := List.getElem?_of_mem hm
    rw [List.getElem?_drop] at hd
    have hdl := (List.getElem?_eq_some_iff.1 hd).1
    rw [h.len] at hdl
    have h1 := ih (j - (d + 1)) (by omega) (i + 1 + d) t hd (by omega)
    rw [h1 k (by omega), h1 j (by omega)]
def mP (sts : List St) (n : Nat) (p : Nat) : Nat := mF sts n p
theorem mP_eq {sts : List St} {n : Nat} {L : List Nat} (h : Ord sts n L) (hz : ∀ s ∈ sts, ∀ a ∈ s.arcs, 0 ≤ a.t ∧ a.t < n) {p : Nat} {x : St} (hx : sts[p]? = some x) : mP sts n p = max (fin1 x.fin) (mxl (x.arcs.map fun a => inc (mP sts n a.t.toNat))) := by
  have hpn : p < n := by rw [← h.num]; exact (List.getElem?_eq_some_iff.1 hx).1
  obtain ⟨i, hi⟩ := List.getElem?_of_mem (nodup_full h.nodup h.lt h.len p hpn)
  have hil := (List.getElem?_eq_some_iff.1 hi).1
  have h1 := mF_stable h hz (n - 1) i p hi (by omega)
  have h2 := h1 (n + 1) (by omega)
  rw [show n - 1 + 1 = n by omega] at h2
  unfold mP
  rw [← h2]
  simp only [mF, stA_of hx]
  congr 2
  simp [List.getD_eq_getElem?_getD, hx]

/-- The greatest over the states that are left. -/
def wmx (β φ : Nat → Nat) (l : List Nat) : Nat := mxl (l.map fun r => cmb (φ r) (β r))
def updM (φ : Nat → Nat) (t c : Nat) : Nat → Nat := fun r => if r = t then max (φ t) c else φ r
theorem wmx_not {β φ : Nat → Nat} {t c : Nat} : ∀ {l : List Nat}, t ∉ l → wmx β (updM φ t c) l = wmx β φ l
  | [], _ => rfl
  | r :: l, h => by
    simp only [List.mem_cons, not_or] at h
    have ih := wmx_not (β := β) (φ := φ) (c := c) h.2
    simp only [wmx, List.map_cons, mxl] at ih ⊢
    rw [ih, updM, if_neg (Ne.symm h.1)]
theorem wmx_upd {β φ : Nat → Nat} {t c : Nat} : ∀ {l : List Nat}, l.Nodup → t ∈ l → wmx β (updM φ t c) l = max (wmx β φ l) (cmb c (β t))
  | [], _, h => by simp at h
  | r :: l, hd, h => by
    have hd' := List.nodup_cons.1 hd
    by_cases e : r = t
    · subst e
      have h1 := wmx_not (β := β) (φ := φ) (c := c) hd'.1
      simp only [wmx, List.map_cons, mxl] at h1 ⊢
      rw [h1, updM, if_pos rfl, cmb_maxl]
      omega
    · have hm : t ∈ l := by
        rcases List.mem_cons.1 h with h | h
        · exact absurd h.symm e
        · exact h
      have ih := wmx_upd (β := β) (φ := φ) (c := c) hd'.2 hm
      simp only [wmx, List.map_cons, mxl] at ih ⊢
      rw [ih, updM, if_neg e]
      omega
/-- Forward: what is known when k states of the order L are done. -/
structure FwM (β : Nat → Nat) (L : List Nat) (s : Nat) (k : Nat) (φ : Nat → Nat) (σ : Nat) : Prop where
  yet : s ∉ L.take k → (∀ r, φ r = 0) ∧ σ = 0
  sum : s ∈ L.take k → max σ (wmx β φ (L.drop k)) = β s
  bnd : ∀ r, φ r ≤ k + 1
/-- Amidst the arcs of the state q: l, those that are left. -/
structure MdM (β : Nat → Nat) (L : List Nat) (s : Nat) (k q : Nat) (l : List Ar) (φ : Nat → Nat) (σ : Nat) : Prop where
  yet : s ∉ L.take (k + 1) → (∀ r, φ r = 0) ∧ σ = 0
  sum : s ∈ L.take (k + 1) → max (max σ (wmx β φ (L.drop (k + 1)))) (mxl (l.map fun a => cmb (φ q) (inc (β a.t.toNat)))) = β s
  bnd : ∀ r, φ r ≤ k + 2
  bq : φ q ≤ k + 1
theorem FwM.zero (β : Nat → Nat) (L : List Nat) (s : Nat) : FwM β L s 0 (fun _ => 0) 0 := ⟨fun _ => ⟨fun _ => rfl, rfl⟩, fun h => by simp at h, fun _ => by simp⟩
theorem Ord.front {sts : List St} {n k q : Nat} {L : List Nat} (hO : Ord sts n L) (hk : L[k]? = some q) : q ∉ L.take k ∧ L.drop k = q :: L.drop (k + 1) ∧ q ∉ L.drop (k + 1) := by
  have hnd : L.Nodup := hO.nodup
  have hkl := (List.getElem?_eq_some_iff.1 hk).1
  have hdrop : L.drop k = q :: L.drop (k + 1) := by
    rw [List.drop_eq_getElem_cons hkl]
    rw [List.getElem?_eq_getElem hkl, Option.some.injEq] at hk
    rw [hk]
  refine ⟨fun hm => ?_, hdrop, ?_⟩
  · obtain ⟨i, hi⟩ := List.getElem?_of_mem hm
    have hil := (List.getElem?_eq_some_iff.1 hi).1
    simp at hil
    rw [List.getElem?_take_of_lt (by omega)] at hi
    have := (List.getElem?_inj (by omega) hnd).1 (hi.trans hk.symm)
    omega
  · have : (L.drop k).Nodup := List.Nodup.sublist (List.drop_sublist k L) hnd
    rw [hdrop] at this
    exact (List.nodup_cons.1 this).1
theorem FwM.enter {sts : List St} {n k q s : Nat} {L : List Nat} {φ : Nat → Nat} {σ : Nat} {x : St} (hO : Ord sts n L) (hz : ∀ s ∈ sts, ∀ a ∈ s.arcs, 0 ≤ a.t ∧ a.t < n) (h : FwM (mP sts n) L s k φ σ) (hk : L[k]? = some q) (hx : sts[q]? = some x) {φ' : Nat → Nat} (hφ : φ' = if q = s then updM φ s 1 else φ) :
    MdM (mP sts n) L s k q x.arcs φ' (max σ (cmb (φ' q) (fin1 x.fin))) := by
  have hb := mP_eq hO hz hx
  obtain ⟨hqk, hdrop, hqd⟩ := hO.front hk
  have hall : ∀ r, φ' r ≤ k + 1 := fun r => by
    have := h.bnd r
    rw [hφ]
    split
    · rename_i e
      unfold updM
      split
      · have := h.bnd s; omega
      · exact this
    · exact this
  refine ⟨fun hno => ?_, fun hm => ?_, fun r => Nat.le_succ_of_le (hall r), hall q⟩
  · have hne : ¬ q = s := fun e => hno ((take_mem hk).2 (.inr e.symm))
    rw [if_neg hne] at hφ
    subst hφ
    obtain ⟨h1, h2⟩ := h.yet (fun hm => hno ((take_mem hk).2 (.inl hm)))
    exact ⟨h1, by rw [h1, h2, cmb_zero]; rfl⟩
  · by_cases e : q = s
    · subst e
      rw [if_pos rfl] at hφ
      subst hφ
      obtain ⟨h1, h2⟩ := h.yet hqk
      rw [wmx_not hqd, h2]
      have hw : wmx (mP sts n) φ (L.drop (k + 1)) = 0 := mxl_zeros fun y hy => by
        obtain ⟨r, _, rfl⟩ := List.mem_map.1 hy
        rw [h1 r, cmb_zero]
      have h3 : updM φ q 1 q = 1 := by unfold updM; rw [if_pos rfl, h1 q]; rfl
      rw [hw, h3, hb]
      simp only [cmb_one]
      omega
    · rw [if_neg e] at hφ
      subst hφ
      have hs : s ∈ L.take k := by
        rcases (take_mem hk).1 hm with h | h
        · exact h
        · exact absurd h.symm e
      have h1 := h.sum hs
      rw [hdrop] at h1
      simp only [wmx, List.map_cons, mxl] at h1 ⊢
      rw [hb, cmb_maxr, cmb_mxl, List.map_map] at h1
      rw [← h1]
      have : ∀ a b c d : Nat, max (max (max a b) c) d = max a (max (max b d) c) := fun a b c d => by omega
      exact this _ _ _ _
theorem MdM.step {sts : List St} {n k q s t : Nat} {L : List Nat} {φ : Nat → Nat} {σ : Nat} {x : St} {a : Ar} {l : List Ar} (hO : Ord sts n L) (h : MdM (mP sts n) L s k q (a :: l) φ σ) (hk : L[k]? = some q) (hx : sts[q]? = some x) (ha : a ∈ x.arcs) (hat : a.t = (t : Int)) (ht : t < n) (hpos : φ q ≠ 0) : MdM (mP sts n) L s k q l (updM φ t (φ q + 1)) σ ∧ updM φ t (φ q + 1) q = φ q := by
  obtain ⟨h1, h2⟩ := hO.later hk hx ha hat ht
  have hqt : ¬ q = t := fun e => h1 ((take_mem hk).2 (.inr e.symm))
  have hq : updM φ t (φ q + 1) q = φ q := by rw [updM, if_neg hqt]
  refine ⟨⟨fun hno => ?_, fun hm => ?_, fun r => ?_, by rw [hq]; exact h.bq⟩, hq⟩
  · exact absurd ((h.yet hno).1 q) hpos
  · have h3 := h.sum hm
    have hnd : (L.drop (k + 1)).Nodup := List.Nodup.sublist (List.drop_sublist _ L) hO.nodup
    rw [wmx_upd hnd h2, hq, cmb_inc _ hpos]
    simp only [List.map_cons, mxl, hat, Int.toNat_natCast] at h3
    rw [← h3]
    have : ∀ a b c d : Nat, max (max a (max b c)) d = max (max a b) (max c d) := fun a b c d => by omega
    exact this _ _ _ _
  · have h4 := h.bnd r
    have h5 := h.bq
    unfold updM
    split
    · have := h.bnd t; omega
    · exact h4
theorem MdM.leave {β : Nat → Nat} {k q s : Nat} {L : List Nat} {φ : Nat → Nat} {σ : Nat} (h : MdM β L s k q [] φ σ) : FwM β L s (k + 1) φ σ := ⟨h.yet, fun hm => by have := h.sum hm; simpa [mxl] using this, fun r => by have := h.bnd r; omega⟩
theorem MdM.skip {β : Nat → Nat} {k q s : Nat} {L : List Nat} {l : List Ar} {φ : Nat → Nat} {σ : Nat} (h : MdM β L s k q l φ σ) (h0 : φ q = 0) : FwM β L s (k + 1) φ σ := by
  refine ⟨h.yet, fun hm => ?_, fun r => by have := h.bnd r; omega⟩
  have := h.sum hm
  rw [mxl_zeros (l := l.map fun a => cmb (φ q) (inc (β a.t.toNat))) (fun y hy => by
    obtain ⟨r, _, rfl⟩ := List.mem_map.1 hy
    rw [h0, cmb_zero])] at this
  simpa using this
theorem FwM.done {sts : List St} {n s : Nat} {L : List Nat} {φ : Nat → Nat} {σ : Nat} (hO : Ord sts n L) (h : FwM (mP sts n) L s n φ σ) : σ = if s < n then mP sts n s else 0 := by
  have hl := hO.len
  by_cases hs : s < n
  · rw [if_pos hs]
    have := h.sum (by rw [List.take_of_length_le (by omega)]; exact nodup_full hO.nodup hO.lt hO.len s hs)
    rw [List.drop_eq_nil_of_le (by omega)] at this
    simpa [wmx, mxl] using this
  · rw [if_neg hs]
    exact (h.yet (by rw [List.take_of_length_le (by omega)]; exact fun hm => hs (hO.lt s hm))).2
/-- The greater of two. -/
structure Mx (x y k : Int) : Prop where
  h : (if y > x then y else x) = k
theorem mx_nat (x y : Nat) : Mx ((x : Int) - 1) ((y : Int) - 1) (((max x y : Nat) : Int) - 1) := ⟨by split <;> omega⟩
/-- What the program keeps. -/
structure StM (n : Nat) (φ : Nat → Nat) (W : List Int) : Prop where
  len : W.length = n
  get : ∀ r, r < n → W[r]? = some ((φ r : Int) - 1)
theorem StM.set {n : Nat} {φ : Nat → Nat} {W : List Int} {t c : Nat} (h : StM n φ W) (ht : t < n) : StM n (updM φ t c) (W.set t (((max (φ t) c : Nat) : Int) - 1)) := by
  refine ⟨by simpa using h.len, fun r hr => ?_⟩
  rw [List.getElem?_set, h.len]
  by_cases e : t = r
  · subst e; rw [if_pos rfl, if_pos hr, updM, if_pos rfl]
  · rw [if_neg e, updM, if_neg (Ne.symm e), h.get r hr]
theorem StM.start {n : Nat} {φ : Nat → Nat} {W : List Int} {t : Nat} (h : StM n φ W) (ht : t < n) (h0 : φ t = 0) : StM n (updM φ t 1) (W.set t 0) := by
  have := h.set (c := 1) ht
  rw [h0] at this
  exact this
theorem StM.step {n : Nat} {φ : Nat → Nat} {W : List Int} {q t : Nat} (h : StM n φ W) (hq : q < n) (ht : t < n) : ∃ c : Int, W[t]? = some ((φ t : Int) - 1) ∧ W[q]? = some ((φ q : Int) - 1) ∧ Mx ((φ t : Int) - 1) ((φ q : Int) - 1 + 1) c ∧ StM n (updM φ t (φ q + 1)) (W.set t c) :=
  ⟨_, h.get t ht, h.get q hq, by have := mx_nat (φ t) (φ q + 1); rwa [Int.natCast_add, show (φ q : Int) + ((1 : Nat) : Int) - 1 = (φ q : Int) - 1 + 1 by omega] at this, h.set ht⟩
/-- Backward: so far the states from the j-th of the order on are known. -/
structure BwM (sts : List St) (n : Nat) (L : List Nat) (j : Nat) (W : List Int) : Prop where
  len : W.length = n
  get : ∀ i p, j ≤ i → L[i]? = some p → W[p]? = some ((mP sts n p : Int) - 1)
theorem BwM.zero (sts : List St) (n : Nat) {L : List Nat} (h : L.length = n) : BwM sts n L n (List.replicate n 0) := ⟨by simp, fun i p h1 h2 => by have := (List.getElem?_eq_some_iff.1 h2).1; omega⟩
def acm (sts : List St) (n : Nat) (x : St) (i : Nat) : Nat := max (fin1 x.fin) (mxl ((x.arcs.take i).map fun a => inc (mP sts n a.t.toNat)))
theorem acm_zero (sts : List St) (n : Nat) (x : St) : acm sts n x 0 = fin1 x.fin := by simp [acm, mxl]
theorem BwM.step {sts : List St} {n j q i t : Nat} {L : List Nat} {W : List Int} {x : St} {a : Ar} (hO : Ord sts n L) (h : BwM sts n L (j + 1) W) (hk : L[j]? = some q) (hx : sts[q]? = some x) (hi : x.arcs[i]? = some a) (hat : a.t = (t : Int)) (ht : t < n) : ∃ w : Nat, W[t]? = some ((w : Int) - 1) ∧ w ≤ n ∧ acm sts n x (i + 1) = max (acm sts n x i) (inc w) := by
  obtain ⟨_, h2⟩ := hO.later hk hx (List.mem_of_getElem? hi) hat ht
  obtain ⟨d, hd⟩ := List.getElem?_of_mem h2
  rw [List.getElem?_drop] at hd
  refine ⟨_, h.get (j + 1 + d) t (by omega) hd, mF_le _ _ _, ?_⟩
  unfold acm
  rw [take_snoc hi, List.map_append, mxl_app]
  simp only [List.map_cons, List.map_nil, mxl, hat, Int.toNat_natCast]
  omega
theorem BwM.stepI {sts : List St} {n j q i t : Nat} {L : List Nat} {W : List Int} {x : St} {a : Ar} (hO : Ord sts n L) (h : BwM sts n L (j + 1) W) (hk : L[j]? = some q) (hx : sts[q]? = some x) (hi : x.arcs[i]? = some a) (hat : a.t = (t : Int)) (ht : t < n) : ∃ w : Int, W[t]? = some w ∧ -1 ≤ w ∧ w ≤ n ∧ (acm sts n x (i + 1) : Int) - 1 = if 0 ≤ w ∧ (acm sts n x i : Int) - 1 < w + 1 then w + 1 else (acm sts n x i : Int) - 1 := by
  obtain ⟨w, h1, h2, h3⟩ := h.step hO hk hx hi hat ht
  refine ⟨_, h1, by omega, by omega, ?_⟩
  rw [h3]
  unfold inc
  by_cases h0 : w = 0
  · rw [if_pos h0, if_neg (by omega)]; omega
  · rw [if_neg h0]
    by_cases h4 : acm sts n x i < w + 1
    · rw [if_pos (by omega)]; omega
    · rw [if_neg (by omega)]; omega
theorem BwM.next {sts : List St} {n j q : Nat} {L : List Nat} {W : List Int} {x : St} (hO : Ord sts n L) (hz : ∀ s ∈ sts, ∀ a ∈ s.arcs, 0 ≤ a.t ∧ a.t < n) (h : BwM sts n L (j + 1) W) (hk : L[j]? = some q) (hx : sts[q]? = some x) : BwM sts n L j (W.set q ((acm sts n x x.arcs.length : Int) - 1)) := by
  refine ⟨by simpa using h.len, fun i p h1 h2 => ?_⟩
  have hq := hO.lt q (List.mem_of_getElem? hk)
  rw [List.getElem?_set, h.len]
  by_cases e : q = p
  · subst e
    rw [if_pos rfl, if_pos hq]
    unfold acm
    rw [List.take_of_length_le (Nat.le_refl _), mP_eq hO hz hx]
  · rw [if_neg e]
    refine h.get i p ?_ h2
    have : i ≠ j := by rintro rfl; rw [hk] at h2; exact e (Option.some.inj h2)
    omega
theorem BwM.done {sts : List St} {n p : Nat} {L : List Nat} {W : List Int} (hO : Ord sts n L) (h : BwM sts n L 0 W) (hp : p < n) : W[p]? = some ((mP sts n p : Int) - 1) := by
  obtain ⟨i, hi⟩ := List.getElem?_of_mem (nodup_full hO.nodup hO.lt hO.len p hp)
  exact h.get i p (by omega) hi
/-- The answer. -/
def longN (m : Mach) : Nat := if m.start < 0 then 0 else mP m.states m.states.length m.start.toNat
def longE (m : Mach) : Int := if ordE m ≠ 0 then ordE m else if longN m = 0 then 12 else 0
def longV (m : Mach) : Int := if longE m = 0 then (longN m : Int) - 1 else 0
end Go.Proofs.Ytnpbdcjfealoeaa
