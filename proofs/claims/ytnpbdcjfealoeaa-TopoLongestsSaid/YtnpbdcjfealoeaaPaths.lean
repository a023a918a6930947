/- How many paths there are, and how long the longest one is: forward along an order and backward it is the same. -/
import Derived.Test.YtnpbdcjfealoeaaTopo
namespace Go.Proofs.Ytnpbdcjfealoeaa
open Go.RowKit
set_option linter.unusedSimpArgs false
set_option linter.unusedVariables false

/-- In order: into a state of the list arcs lead from earlier ones alone. -/
def InOrd (sts : List St) (ou : List Nat) : Prop := ∀ (k p r : Nat), ou[k]? = some p → r < sts.length → r ∉ ou.take k → cntT (stA sts r) p = 0
theorem InOrd.snoc {sts : List St} {ou : List Nat} {q : Nat} (h : InOrd sts ou) (hq : wN sts ou q sts.length = 0) : InOrd sts (ou ++ [q]) := by
  intro k p r hk hr hno
  by_cases hkl : k < ou.length
  · rw [List.getElem?_append_left hkl] at hk
    rw [List.take_append_of_le_length (by omega)] at hno
    exact h k p r hk hr hno
  · have hk2 := (List.getElem?_eq_some_iff.1 hk).1
    simp at hk2
    obtain rfl : k = ou.length := by omega
    simp at hk
    subst hk
    rw [List.take_append_of_le_length (by omega), List.take_of_length_le (by omega)] at hno
    exact wN_zero.1 hq r hr hno
theorem ordL_props {sts : List St} : ∀ (k : Nat) (ou : List Nat), InOrd sts ou → ou.Nodup → (∀ x ∈ ou, x < sts.length) → InOrd sts (ordL sts k ou) ∧ (ordL sts k ou).Nodup ∧ ∀ x ∈ ordL sts k ou, x < sts.length
  | 0, ou, h1, h2, h3 => ⟨h1, h2, h3⟩
  | k + 1, ou, h1, h2, h3 => by
    simp only [ordL]
    cases hn : nextQ sts ou with
    | none => exact ⟨h1, h2, h3⟩
    | some q =>
      have hm := List.find?_some hn
      have hq := List.mem_range.1 (List.mem_of_find?_eq_some hn)
      simp only [mayN, Bool.and_eq_true, decide_eq_true_eq] at hm
      refine ordL_props k (ou ++ [q]) (h1.snoc hm.2) ?_ ?_
      · rw [List.nodup_append]
        exact ⟨h2, by simp, fun a ha b hb => by simp at hb; subst hb; rintro rfl; exact hm.1 ha⟩
      · intro x hx
        rcases List.mem_append.1 hx with hx | hx
        · exact h3 x hx
        · simp at hx; omega
/-- An order of all states. -/
structure Ord (sts : List St) (n : Nat) (L : List Nat) : Prop where
  num : sts.length = n
  len : L.length = n
  nodup : L.Nodup
  lt : ∀ x ∈ L, x < n
  ord : InOrd sts L
theorem nodup_full : ∀ {n : Nat} {l : List Nat}, l.Nodup → (∀ x ∈ l, x < n) → l.length = n → ∀ x, x < n → x ∈ l := by
  intro n l hd hlt hlen x hx
  refine Classical.byContradiction fun hno => ?_
  have := nodup_len (n := n) (l := x :: l) (List.nodup_cons.2 ⟨hno, hd⟩) (fun y hy => by
    rcases List.mem_cons.1 hy with rfl | hy
    · exact hx
    · exact hlt y hy)
  simp at this
  omega
theorem Ord.of {m : Mach} (h : ordE m = 0) : Ord m.states m.states.length (ordR m) := by
  have hR : ordR m = ordL m.states m.states.length [] := by unfold ordR; rw [if_pos h]
  obtain ⟨h1, h2, h3⟩ := ordL_props (sts := m.states) m.states.length [] (fun k p r h => by simp at h) (by simp) (by simp)
  rw [← hR] at h1 h2 h3
  refine ⟨rfl, ?_, h2, h3, h1⟩
  have h4 := nodup_len h2 h3
  unfold ordE at h
  by_cases h0 : machE m = 0
  · rw [if_neg (by simp [h0]), ← hR] at h
    by_cases h5 : (ordR m).length < m.states.length
    · rw [if_pos h5] at h; omega
    · omega
  · rw [if_pos h0] at h; exact absurd h h0
/-- Where an arc leads is behind. -/
theorem Ord.later {sts : List St} {n k p : Nat} {L : List Nat} {x : St} {a : Ar} {t : Nat} (h : Ord sts n L) (hk : L[k]? = some p) (hx : sts[p]? = some x) (ha : a ∈ x.arcs) (hat : a.t = (t : Int)) (ht : t < n) : t ∉ L.take (k + 1) ∧ t ∈ L.drop (k + 1) := by
  have hpn : p < sts.length := (List.getElem?_eq_some_iff.1 hx).1
  have hno : t ∉ L.take (k + 1) := by
    intro hm
    obtain ⟨j, hj⟩ := List.getElem?_of_mem hm
    have hjl := (List.getElem?_eq_some_iff.1 hj).1
    simp at hjl
    rw [List.getElem?_take_of_lt (by omega)] at hj
    have hp : p ∉ L.take j := by
      intro hpm
      obtain ⟨i, hi⟩ := List.getElem?_of_mem hpm
      have hil := (List.getElem?_eq_some_iff.1 hi).1
      simp at hil
      rw [List.getElem?_take_of_lt (by omega)] at hi
      have := (List.getElem?_inj (by omega) h.nodup).1 (hi.trans hk.symm)
      omega
    have h1 := h.ord j t p hj hpn hp
    rw [stA_of hx] at h1
    obtain ⟨i, hi⟩ := List.getElem?_of_mem ha
    have := cntT_pos hi hat
    omega
  refine ⟨hno, ?_⟩
  have hm := nodup_full h.nodup h.lt h.len t ht
  rw [← List.take_append_drop (k + 1) L, List.mem_append] at hm
  rcases hm with hm | hm
  · exact absurd hm hno
  · exact hm

/-- How many ways lead from a state to an end, of at most so many arcs. -/
def fin1 (x : Int) : Nat := if x = 1000000001 then 0 else 1
def bF (sts : List St) : Nat → Nat → Nat
  | 0, _ => 0
  | k + 1, p => fin1 (sts.getD p ⟨0, []⟩).fin + ((stA sts p).map fun a => bF sts k a.t.toNat).sum
theorem bF_stable {sts : List St} {n : Nat} {L : List Nat} (h : Ord sts n L) (hz : ∀ s ∈ sts, ∀ a ∈ s.arcs, 0 ≤ a.t ∧ a.t < n) : ∀ (j i p : Nat), L[i]? = some p → n ≤ i + j + 1 → ∀ k, j + 1 ≤ k → bF sts k p = bF sts (j + 1) p := by
  intro j
  induction j using Nat.strongRecOn with
  | _ j ih =>
    intro i p hi hj k hk
    obtain ⟨k, rfl⟩ : ∃ k', k = k' + 1 := ⟨k - 1, by omega⟩
    have hpn : p < sts.length := by rw [h.num]; exact h.lt p (List.mem_of_getElem? hi)
    have hx : sts[p]? = some sts[p] := List.getElem?_eq_getElem hpn
    simp only [bF, stA_of hx]
    congr 2
    refine List.map_congr_left fun a ha => ?_
    obtain ⟨z1, z2⟩ := hz _ (List.getElem_mem hpn) a ha
    obtain ⟨t, ht⟩ : ∃ t : Nat, a.t = t := ⟨a.t.toNat, by omega⟩
    rw [ht, Int.toNat_natCast]
    have hm := (h.later hi hx ha ht (by omega)).2
    obtain ⟨d, hd⟩ := List.getElem?_of_mem hm
    rw [List.getElem?_drop] at hd
    have hdl := (List.getElem?_eq_some_iff.1 hd).1
    rw [h.len] at hdl
    have h1 := ih (j - (d + 1)) (by omega) (i + 1 + d) t hd (by omega)
    rw [h1 k (by omega), h1 j (by omega)]
def bP (sts : List St) (n : Nat) (p : Nat) : Nat := bF sts n p
theorem bP_eq {sts : List St} {n : Nat} {L : List Nat} (h : Ord sts n L) (hz : ∀ s ∈ sts, ∀ a ∈ s.arcs, 0 ≤ a.t ∧ a.t < n) {p : Nat} {x : St} (hx : sts[p]? = some x) : bP sts n p = fin1 x.fin + (x.arcs.map fun a => bP sts n a.t.toNat).sum := by
  have hpn : p < n := by rw [← h.num]; exact (List.getElem?_eq_some_iff.1 hx).1
  obtain ⟨i, hi⟩ := List.getElem?_of_mem (nodup_full h.nodup h.lt h.len p hpn)
  have hil := (List.getElem?_eq_some_iff.1 hi).1
  have h1 := bF_stable h hz (n - 1) i p hi (by omega)
  have h2 := h1 (n + 1) (by omega)
  rw [show n - 1 + 1 = n by omega] at h2
  unfold bP
  rw [← h2]
  simp only [bF, stA_of hx]
  congr 2
  simp [List.getD_eq_getElem?_getD, hx]

/-- Sums over the states that are left. -/
def wsum (β φ : Nat → Nat) (l : List Nat) : Nat := (l.map fun r => φ r * β r).sum
def upd (φ : Nat → Nat) (t c : Nat) : Nat → Nat := fun r => if r = t then φ t + c else φ r
theorem wsum_not {β φ : Nat → Nat} {t c : Nat} : ∀ {l : List Nat}, t ∉ l → wsum β (upd φ t c) l = wsum β φ l
  | [], _ => rfl
  | r :: l, h => by
    simp only [List.mem_cons, not_or] at h
    have ih := wsum_not (β := β) (φ := φ) (c := c) h.2
    simp only [wsum, List.map_cons, List.sum_cons] at ih ⊢
    rw [ih, upd, if_neg (Ne.symm h.1)]
theorem wsum_upd {β φ : Nat → Nat} {t c : Nat} : ∀ {l : List Nat}, l.Nodup → t ∈ l → wsum β (upd φ t c) l = wsum β φ l + c * β t
  | [], _, h => by simp at h
  | r :: l, hd, h => by
    have hd' := List.nodup_cons.1 hd
    by_cases e : r = t
    · subst e
      have h1 := wsum_not (β := β) (φ := φ) (c := c) hd'.1
      simp only [wsum, List.map_cons, List.sum_cons] at h1 ⊢
      rw [h1, upd, if_pos rfl, Nat.add_mul]
      omega
    · have hm : t ∈ l := by
        rcases List.mem_cons.1 h with h | h
        · exact absurd h.symm e
        · exact h
      have ih := wsum_upd (β := β) (φ := φ) (c := c) hd'.2 hm
      simp only [wsum, List.map_cons, List.sum_cons] at ih ⊢
      rw [ih, upd, if_neg e]
      omega
def sat (x : Nat) : Nat := if 1000000001 < x then 1000000001 else x
theorem sat_le (x : Nat) : sat x ≤ 1000000001 := by unfold sat; split <;> omega
theorem sat_add (x y : Nat) : sat (sat x + sat y) = sat (x + y) := by
  unfold sat
  by_cases h1 : 1000000001 < x <;> by_cases h2 : 1000000001 < y
  · rw [if_pos h1, if_pos h2, if_pos (by omega), if_pos (by omega)]
  · rw [if_pos h1, if_neg h2]
    by_cases h3 : y = 0
    · rw [if_neg (by omega), if_pos (by omega)]; omega
    · rw [if_pos (by omega), if_pos (by omega)]
  · rw [if_neg h1, if_pos h2]
    by_cases h3 : x = 0
    · rw [if_neg (by omega), if_pos (by omega)]; omega
    · rw [if_pos (by omega), if_pos (by omega)]
  · rw [if_neg h1, if_neg h2]
theorem sat_int (x y : Nat) : (if (1000000001 : Int) < (sat x : Int) + (sat y : Int) then (1000000001 : Int) else (sat x : Int) + (sat y : Int)) = ((sat (x + y) : Nat) : Int) := by
  rw [← sat_add]
  generalize sat x = a, sat y = b
  unfold sat
  by_cases h : 1000000001 < a + b
  · rw [if_pos (by omega), if_pos h]; rfl
  · rw [if_neg (by omega), if_neg h]; rfl

/-- Forward: what is known when k states of the order L are done. -/
structure Fwd (β : Nat → Nat) (n : Nat) (L : List Nat) (s : Nat) (k : Nat) (φ : Nat → Nat) (σ : Nat) : Prop where
  yet : s ∉ L.take k → (∀ r, φ r = 0) ∧ σ = 0
  sum : s ∈ L.take k → σ + wsum β φ (L.drop k) = β s
/-- Amidst the arcs of the state q: l, those that are left. -/
structure Mid (β : Nat → Nat) (L : List Nat) (s : Nat) (k q : Nat) (l : List Ar) (φ : Nat → Nat) (σ : Nat) : Prop where
  yet : s ∉ L.take (k + 1) → (∀ r, φ r = 0) ∧ σ = 0
  sum : s ∈ L.take (k + 1) → σ + wsum β φ (L.drop (k + 1)) + φ q * (l.map fun a => β a.t.toNat).sum = β s
theorem take_mem {L : List Nat} {k q s : Nat} (hk : L[k]? = some q) : s ∈ L.take (k + 1) ↔ s ∈ L.take k ∨ s = q := by
  rw [take_snoc hk, List.mem_append]; simp
theorem Fwd.enter {sts : List St} {n k q s : Nat} {L : List Nat} {φ : Nat → Nat} {σ : Nat} {x : St} (hO : Ord sts n L) (hz : ∀ s ∈ sts, ∀ a ∈ s.arcs, 0 ≤ a.t ∧ a.t < n) (h : Fwd (bP sts n) n L s k φ σ) (hk : L[k]? = some q) (hx : sts[q]? = some x) {φ' : Nat → Nat} (hφ : φ' = if q = s then upd φ s 1 else φ) :
    Mid (bP sts n) L s k q x.arcs φ' (σ + fin1 x.fin * φ' q) := by
  have hb := bP_eq hO hz hx
  have hnd : L.Nodup := hO.nodup
  have hkl := (List.getElem?_eq_some_iff.1 hk).1
  have hqk : q ∉ L.take k := by
    intro hm
    obtain ⟨i, hi⟩ := List.getElem?_of_mem hm
    have hil := (List.getElem?_eq_some_iff.1 hi).1
    simp at hil
    rw [List.getElem?_take_of_lt (by omega)] at hi
    have := (List.getElem?_inj (by omega) hnd).1 (hi.trans hk.symm)
    omega
  have hdrop : L.drop k = q :: L.drop (k + 1) := by
    rw [List.drop_eq_getElem_cons hkl]
    rw [List.getElem?_eq_getElem hkl, Option.some.injEq] at hk
    rw [hk]
  have hqd : q ∉ L.drop (k + 1) := by
    have : (L.drop k).Nodup := List.Nodup.sublist (List.drop_sublist k L) hnd
    rw [hdrop] at this
    exact (List.nodup_cons.1 this).1
  refine ⟨fun hno => ?_, fun hm => ?_⟩
  · have hne : ¬ q = s := fun e => hno ((take_mem hk).2 (.inr e.symm))
    rw [if_neg hne] at hφ
    subst hφ
    obtain ⟨h1, h2⟩ := h.yet (fun hm => hno ((take_mem hk).2 (.inl hm)))
    exact ⟨h1, by rw [h1, h2]; simp⟩
  · by_cases e : q = s
    · subst e
      rw [if_pos rfl] at hφ
      subst hφ
      obtain ⟨h1, h2⟩ := h.yet hqk
      rw [wsum_not hqd, h2]
      have hw : wsum (bP sts n) φ (L.drop (k + 1)) = 0 := by
        unfold wsum
        have : (L.drop (k + 1)).map (fun r => φ r * bP sts n r) = (L.drop (k + 1)).map (fun _ => 0) := List.map_congr_left fun r _ => by rw [h1 r]; simp
        rw [this]
        generalize L.drop (k + 1) = l
        induction l with
        | nil => rfl
        | cons _ l ih => simpa using ih
      rw [hw, upd, if_pos rfl, h1 q]
      simp only [Nat.zero_add, Nat.one_mul, Nat.mul_one]
      exact hb.symm
    · rw [if_neg e] at hφ
      subst hφ
      have hs : s ∈ L.take k := by
        rcases (take_mem hk).1 hm with h | h
        · exact h
        · exact absurd h.symm e
      have h1 := h.sum hs
      rw [hdrop] at h1
      simp only [wsum, List.map_cons, List.sum_cons] at h1 ⊢
      rw [hb, Nat.mul_add] at h1
      rw [Nat.mul_comm (fin1 x.fin)]
      omega
theorem Mid.step {sts : List St} {n k q s t : Nat} {L : List Nat} {φ : Nat → Nat} {σ : Nat} {x : St} {a : Ar} {l : List Ar} (hO : Ord sts n L) (h : Mid (bP sts n) L s k q (a :: l) φ σ) (hk : L[k]? = some q) (hx : sts[q]? = some x) (ha : a ∈ x.arcs) (hat : a.t = (t : Int)) (ht : t < n) : Mid (bP sts n) L s k q l (upd φ t (φ q)) σ ∧ upd φ t (φ q) q = φ q := by
  obtain ⟨h1, h2⟩ := hO.later hk hx ha hat ht
  have hqt : ¬ q = t := fun e => h1 ((take_mem hk).2 (.inr e.symm))
  have hq : upd φ t (φ q) q = φ q := by rw [upd, if_neg hqt]
  refine ⟨⟨fun hno => ?_, fun hm => ?_⟩, hq⟩
  · obtain ⟨h3, h4⟩ := h.yet hno
    refine ⟨fun r => ?_, h4⟩
    unfold upd
    split
    · rw [h3, h3]
    · exact h3 r
  · have h3 := h.sum hm
    have hnd : (L.drop (k + 1)).Nodup := List.Nodup.sublist (List.drop_sublist _ L) hO.nodup
    rw [wsum_upd hnd h2, hq]
    simp only [List.map_cons, List.sum_cons, hat, Int.toNat_natCast, Nat.mul_add] at h3
    omega
theorem Mid.leave {β : Nat → Nat} {n k q s : Nat} {L : List Nat} {φ : Nat → Nat} {σ : Nat} (h : Mid β L s k q [] φ σ) : Fwd β n L s (k + 1) φ σ := ⟨h.yet, fun hm => by have := h.sum hm; simpa using this⟩
/-- The lesser of two. -/
structure Mn (x y k : Int) : Prop where
  h : (if y < x then y else x) = k
/-- What the program keeps: how many ways lead to each, and to ends, up to the bound. -/
structure Stt (n : Nat) (φ : Nat → Nat) (σ : Nat) (W : List Nat) (a : Nat) : Prop where
  len : W.length = n
  get : ∀ r, r < n → W[r]? = some (sat (φ r))
  sum : a = sat σ
theorem Stt.zero (n : Nat) : Stt n (fun _ => 0) 0 (List.replicate n 0) 0 := ⟨by simp, fun r hr => by simp [List.getElem?_replicate, hr, sat], by simp [sat]⟩
theorem Stt.set {n : Nat} {φ : Nat → Nat} {σ : Nat} {W : List Nat} {a t c : Nat} (h : Stt n φ σ W a) (ht : t < n) : Stt n (upd φ t c) σ (W.set t (sat (φ t + c))) a := by
  refine ⟨by simpa using h.len, fun r hr => ?_, h.sum⟩
  rw [List.getElem?_set, h.len]
  by_cases e : t = r
  · subst e; rw [if_pos rfl, if_pos hr, upd, if_pos rfl]
  · rw [if_neg e, upd, if_neg (Ne.symm e), h.get r hr]
theorem Stt.start {n : Nat} {φ : Nat → Nat} {σ : Nat} {W : List Nat} {a t : Nat} (h : Stt n φ σ W a) (ht : t < n) (h0 : φ t = 0) : Stt n (upd φ t 1) σ (W.set t 1) a := by
  have := h.set (c := 1) ht
  rw [h0] at this
  exact this
theorem Stt.more {n : Nat} {φ : Nat → Nat} {σ : Nat} {W : List Nat} {a q : Nat} (h : Stt n φ σ W a) (hq : q < n) : ∃ w c : Nat, W[q]? = some w ∧ a ≤ 1000000001 ∧ w ≤ 1000000001 ∧ Mn ((a : Int) + (w : Int)) 1000000001 (c : Int) ∧ Stt n φ (σ + φ q) W c := by
  obtain ⟨h1, h2, rfl⟩ := h
  exact ⟨_, sat (σ + φ q), h2 q hq, sat_le _, sat_le _, ⟨sat_int σ (φ q)⟩, ⟨h1, h2, rfl⟩⟩
theorem Stt.step {n : Nat} {φ : Nat → Nat} {σ : Nat} {W : List Nat} {a q t : Nat} (h : Stt n φ σ W a) (hq : q < n) (ht : t < n) : ∃ v w c : Nat, W[t]? = some v ∧ W[q]? = some w ∧ v ≤ 1000000001 ∧ w ≤ 1000000001 ∧ Mn ((v : Int) + (w : Int)) 1000000001 (c : Int) ∧ Stt n (upd φ t (φ q)) σ (W.set t c) a :=
  ⟨_, _, sat (φ t + φ q), h.get t ht, h.get q hq, sat_le _, sat_le _, ⟨sat_int (φ t) (φ q)⟩, h.set ht⟩
theorem Fwd.zero (β : Nat → Nat) (n : Nat) (L : List Nat) (s : Nat) : Fwd β n L s 0 (fun _ => 0) 0 := ⟨fun _ => ⟨fun _ => rfl, rfl⟩, fun h => by simp at h⟩
theorem Fwd.done {sts : List St} {n s : Nat} {L : List Nat} {φ : Nat → Nat} {σ : Nat} (hO : Ord sts n L) (h : Fwd (bP sts n) n L s n φ σ) : σ = if s < n then bP sts n s else 0 := by
  have hl := hO.len
  by_cases hs : s < n
  · rw [if_pos hs]
    have := h.sum (by rw [List.take_of_length_le (by omega)]; exact nodup_full hO.nodup hO.lt hO.len s hs)
    rw [List.drop_eq_nil_of_le (by omega)] at this
    simpa [wsum] using this
  · rw [if_neg hs]
    exact (h.yet (by rw [List.take_of_length_le (by omega)]; exact fun hm => hs (hO.lt s hm))).2
theorem Mid.zero {β : Nat → Nat} {n : Nat} {L : List Nat} {s k : Nat} {φ : Nat → Nat} {σ : Nat} (h : Fwd β n L s k φ σ) (hs : s ∉ L.take k) : φ s = 0 := (h.yet hs).1 s
/-- Backward: so far the states from the j-th of the order on are counted. -/
structure Bwd (sts : List St) (n : Nat) (L : List Nat) (j : Nat) (W : List Nat) : Prop where
  len : W.length = n
  get : ∀ i p, j ≤ i → L[i]? = some p → W[p]? = some (sat (bP sts n p))
theorem Bwd.zero (sts : List St) (n : Nat) {L : List Nat} (h : L.length = n) : Bwd sts n L n (List.replicate n 0) := ⟨by simp, fun i p h1 h2 => by have := (List.getElem?_eq_some_iff.1 h2).1; omega⟩
def acc (sts : List St) (n : Nat) (x : St) (i : Nat) : Nat := sat (fin1 x.fin + ((x.arcs.take i).map fun a => bP sts n a.t.toNat).sum)
theorem acc_zero (sts : List St) (n : Nat) (x : St) : acc sts n x 0 = fin1 x.fin := by
  unfold acc fin1 sat
  simp only [List.take_zero, List.map_nil, List.sum_nil]
  split <;> rfl
theorem Bwd.step {sts : List St} {n j q i t : Nat} {L W : List Nat} {x : St} {a : Ar} (hO : Ord sts n L) (h : Bwd sts n L (j + 1) W) (hk : L[j]? = some q) (hx : sts[q]? = some x) (hi : x.arcs[i]? = some a) (hat : a.t = (t : Int)) (ht : t < n) : ∃ w, W[t]? = some w ∧ w ≤ 1000000001 ∧ acc sts n x i ≤ 1000000001 ∧ acc sts n x (i + 1) = sat (acc sts n x i + w) := by
  obtain ⟨_, h2⟩ := hO.later hk hx (List.mem_of_getElem? hi) hat ht
  obtain ⟨d, hd⟩ := List.getElem?_of_mem h2
  rw [List.getElem?_drop] at hd
  refine ⟨_, h.get (j + 1 + d) t (by omega) hd, sat_le _, sat_le _, ?_⟩
  unfold acc
  rw [sat_add, take_snoc hi]
  simp [hat, Nat.add_assoc]
theorem Bwd.next {sts : List St} {n j q : Nat} {L W : List Nat} {x : St} (hO : Ord sts n L) (hz : ∀ s ∈ sts, ∀ a ∈ s.arcs, 0 ≤ a.t ∧ a.t < n) (h : Bwd sts n L (j + 1) W) (hk : L[j]? = some q) (hx : sts[q]? = some x) : Bwd sts n L j (W.set q (acc sts n x x.arcs.length)) := by
  refine ⟨by simpa using h.len, fun i p h1 h2 => ?_⟩
  have hq := hO.lt q (List.mem_of_getElem? hk)
  rw [List.getElem?_set, h.len]
  by_cases e : q = p
  · subst e
    rw [if_pos rfl, if_pos hq]
    unfold acc
    rw [List.take_of_length_le (Nat.le_refl _), bP_eq hO hz hx]
  · rw [if_neg e]
    refine h.get i p ?_ h2
    have : i ≠ j := by rintro rfl; rw [hk] at h2; exact e (Option.some.inj h2)
    omega
theorem sat_pos {x : Nat} (h : 1000000001 < x) : sat x = 1000000001 := by unfold sat; rw [if_pos h]
theorem sat_neg {x : Nat} (h : ¬ 1000000001 < x) : sat x = x := by unfold sat; rw [if_neg h]
theorem Bwd.done {sts : List St} {n p : Nat} {L W : List Nat} (hO : Ord sts n L) (h : Bwd sts n L 0 W) (hp : p < n) : W[p]? = some (sat (bP sts n p)) := by
  obtain ⟨i, hi⟩ := List.getElem?_of_mem (nodup_full hO.nodup hO.lt hO.len p hp)
  exact h.get i p (by omega) hi
/-- The answer. -/
def pathN (m : Mach) : Nat := if m.start < 0 then 0 else sat (bP m.states m.states.length m.start.toNat)
def pathE (m : Mach) : Int := if ordE m ≠ 0 then ordE m else if 1000000000 < pathN m then 4 else 0
def pathV (m : Mach) : Int := if pathE m = 0 then (pathN m : Int) else 0
end Go.Proofs.Ytnpbdcjfealoeaa
