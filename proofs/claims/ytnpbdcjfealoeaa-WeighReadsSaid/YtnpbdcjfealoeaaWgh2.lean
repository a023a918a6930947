/- The rounds over all places: till nothing gets cheaper; and the least of all ends. -/
import Derived.Test.YtnpbdcjfealoeaaWgh
namespace Go.Proofs.Ytnpbdcjfealoeaa
open Go.RowKit
set_option linter.unusedSimpArgs false
set_option linter.unusedVariables false

section
variable (st : Int) (sts : List St) (x y : List Int) (fr : Bool)
/-- The edges of a place over its first arcs. -/
def gUpto (T k p w : Nat) : Prop := ∃ (s : St) (t : Nat) (a : Ar) (i j : Nat), t < T ∧ sts[k / (y.length + 1) / (x.length + 1)]? = some s ∧ s.arcs[t]? = some a ∧ fitN x (k / (y.length + 1) % (x.length + 1)) a.i = some i ∧ fitJ fr y (k % (y.length + 1)) a.o = some j ∧ p = ixW x y a.t.toNat i j ∧ a.w = (w : Int)
/-- In a round: the places below k are seen, and the first T arcs of k; ag: something has got cheaper. -/
structure Chp (S0 k T : Nat) (ag : Bool) (L : List Nat) : Prop where
  snd : Snd (gInit st x y) (gEdge sts x y fr) (sts.length * (x.length + 1) * (y.length + 1)) L
  sum : L.sum ≤ S0
  sum1 : ag = true → L.sum + 1 ≤ S0
  cl : ag = false → ∀ k' p w a b, (k' < k ∨ k' = k ∧ gUpto sts x y fr T k p w) → gEdge sts x y fr k' p w → L[k']? = some a → a < big → L[p]? = some b → b ≤ a + w
end
section
variable {st : Int} {sts : List St} {x y : List Int} {fr : Bool} {S0 k T : Nat} {ag : Bool} {L : List Nat}
theorem Chp.start (h : Snd (gInit st x y) (gEdge sts x y fr) (sts.length * (x.length + 1) * (y.length + 1)) L) : Chp st sts x y fr L.sum 0 0 false L :=
  ⟨h, Nat.le_refl _, fun h => (by cases h), fun _ k' p w a b hc => by
    rcases hc with hc | ⟨_, s, t, _, _, _, ht, _⟩
    · omega
    · omega⟩
theorem Chp.none (h : Chp st sts x y fr S0 k 0 ag L) (hb : L[k]? = some big) : Chp st sts x y fr S0 (k + 1) 0 ag L :=
  ⟨h.snd, h.sum, h.sum1, fun ha k' p w a b hc he h1 h2 h3 => by
    rcases hc with hc | ⟨_, s, t, _, _, _, ht, _⟩
    · by_cases e : k' = k
      · subst e; rw [hb] at h1; simp only [Option.some.injEq] at h1; omega
      · exact h.cl ha k' p w a b (.inl (by omega)) he h1 h2 h3
    · omega⟩
theorem Chp.next (h : Chp st sts x y fr S0 k T ag L) {s : St} (hs : sts[k / (y.length + 1) / (x.length + 1)]? = some s) (hT : s.arcs.length ≤ T) : Chp st sts x y fr S0 (k + 1) 0 ag L :=
  ⟨h.snd, h.sum, h.sum1, fun ha k' p w a b hc he h1 h2 h3 => by
    rcases hc with hc | ⟨_, s, t, _, _, _, ht, _⟩
    · by_cases e : k' = k
      · subst e
        obtain ⟨s', t, a', i, j, e1, e2, e3⟩ := he
        rw [hs] at e1
        simp only [Option.some.injEq] at e1
        subst e1
        exact h.cl ha k' p w a b (.inr ⟨rfl, s, t, a', i, j, by have := (List.getElem?_eq_some_iff.1 e2).1; omega, hs, e2, e3⟩) ⟨s, t, a', i, j, hs, e2, e3⟩ h1 h2 h3
      · exact h.cl ha k' p w a b (.inl (by omega)) he h1 h2 h3
    · omega⟩
theorem Chp.arc_no (h : Chp st sts x y fr S0 k T ag L) {s : St} {a : Ar} (hs : sts[k / (y.length + 1) / (x.length + 1)]? = some s) (ha : s.arcs[T]? = some a) (hno : fitN x (k / (y.length + 1) % (x.length + 1)) a.i = .none ∨ fitJ fr y (k % (y.length + 1)) a.o = .none) : Chp st sts x y fr S0 k (T + 1) ag L :=
  ⟨h.snd, h.sum, h.sum1, fun hag k' p w c b hc he h1 h2 h3 => by
    rcases hc with hc | ⟨rfl, s', t, a', i, j, ht, e1, e2, e3, e4, e5⟩
    · exact h.cl hag k' p w c b (.inl hc) he h1 h2 h3
    · by_cases e : t = T
      · subst e
        rw [hs] at e1
        simp only [Option.some.injEq] at e1
        subst e1
        rw [ha] at e2
        simp only [Option.some.injEq] at e2
        subst e2
        rcases hno with hno | hno
        · rw [hno] at e3; cases e3
        · rw [hno] at e4; cases e4
      · exact h.cl hag k' p w c b (.inr ⟨rfl, s', t, a', i, j, by omega, e1, e2, e3, e4, e5⟩) he h1 h2 h3⟩
theorem Chp.arc_ge (h : Chp st sts x y fr S0 k T ag L) {s : St} {a : Ar} {i j p w c b : Nat} (hs : sts[k / (y.length + 1) / (x.length + 1)]? = some s) (ha : s.arcs[T]? = some a) (hi : fitN x (k / (y.length + 1) % (x.length + 1)) a.i = some i) (hj : fitJ fr y (k % (y.length + 1)) a.o = some j) (hp : ixW x y a.t.toNat i j = p) (hw : a.w = (w : Int))
    (hc : L[k]? = some c) (hb : L[p]? = some b) (hge : b ≤ c + w) : Chp st sts x y fr S0 k (T + 1) ag L :=
  ⟨h.snd, h.sum, h.sum1, fun hag k' p' w' c' b' hC he h1 h2 h3 => by
    rcases hC with hC | ⟨rfl, s', t, a', i', j', ht, e1, e2, e3, e4, e5, e6⟩
    · exact h.cl hag k' p' w' c' b' (.inl hC) he h1 h2 h3
    · by_cases e : t = T
      · subst e
        rw [hs] at e1
        simp only [Option.some.injEq] at e1
        subst e1
        rw [ha] at e2
        simp only [Option.some.injEq] at e2
        subst e2
        rw [hi] at e3
        rw [hj] at e4
        simp only [Option.some.injEq] at e3 e4
        subst e3 e4
        rw [hp] at e5
        subst e5
        rw [hc] at h1
        rw [hb] at h3
        simp only [Option.some.injEq] at h1 h3
        omega
      · exact h.cl hag k' p' w' c' b' (.inr ⟨rfl, s', t, a', i', j', by omega, e1, e2, e3, e4, e5, e6⟩) he h1 h2 h3⟩
theorem Chp.arc_lt (h : Chp st sts x y fr S0 k T ag L) {s : St} {a : Ar} {i j p w c b : Nat} (hs : sts[k / (y.length + 1) / (x.length + 1)]? = some s) (ha : s.arcs[T]? = some a) (hi : fitN x (k / (y.length + 1) % (x.length + 1)) a.i = some i) (hj : fitJ fr y (k % (y.length + 1)) a.o = some j) (hp : ixW x y a.t.toNat i j = p) (hw : a.w = (w : Int))
    (hc : L[k]? = some c) (hcb : c < big) (hb : L[p]? = some b) (hlt : c + w < b) : Chp st sts x y fr S0 k (T + 1) true (L.set p (c + w)) := by
  have hsum := sum_set L p (c + w) b hb hlt
  have h1 := h.sum
  exact ⟨h.snd.set ⟨s, T, a, i, j, hs, ha, hi, hj, hp.symm, hw⟩ hc hcb (fun z hz => by rw [hb] at hz; simp only [Option.some.injEq] at hz; omega), by omega, fun _ => by omega, fun h => (by cases h)⟩
theorem gEdge_in (hz : ∀ s ∈ sts, ∀ a ∈ s.arcs, 0 ≤ a.t ∧ a.t < sts.length) {k p w : Nat} (h : gEdge sts x y fr k p w) : k < sts.length * (x.length + 1) * (y.length + 1) := by
  obtain ⟨s, t, a, i, j, h1, _⟩ := h
  have hq := (List.getElem?_eq_some_iff.1 h1).1
  rw [Nat.div_div_eq_div_mul, Nat.div_lt_iff_lt_mul (Nat.mul_pos (by omega) (by omega))] at hq
  rw [Nat.mul_assoc, Nat.mul_comm (x.length + 1)]
  exact hq
theorem Chp.done (h : Chp st sts x y fr S0 k 0 false L) (hk : sts.length * (x.length + 1) * (y.length + 1) ≤ k) (hz : ∀ s ∈ sts, ∀ a ∈ s.arcs, 0 ≤ a.t ∧ a.t < sts.length) : L = dstL (gInit st x y) (gEdge sts x y fr) (sts.length * (x.length + 1) * (y.length + 1)) :=
  (Lst.of_closed h.snd (fun q p w e => gEdge_in hz e) fun q p w a b e h1 h2 h3 => h.cl rfl q p w a b (.inl (by have := gEdge_in hz e; omega)) e h1 h2 h3).eq

/-- The least of the ends of the first states. -/
structure Bsw (sts : List St) (x y : List Int) (D : Nat → Nat) (q b : Nat) : Prop where
  le : b ≤ big
  is : b < big → gWay sts x y D q b
  low : ∀ c, gWay sts x y D q c → b ≤ c ∨ big ≤ c
variable {D : Nat → Nat} {q b c : Nat}
theorem Bsw.start : Bsw sts x y D 0 big := ⟨Nat.le_refl _, fun h => absurd h (Nat.lt_irrefl _), fun c ⟨q, d, s, h, _⟩ => by omega⟩
theorem Bsw.skip (h : Bsw sts x y D q b) {s : St} (hs : sts[q]? = some s) (hn : D (ixW x y q x.length y.length) = big ∨ s.fin = 1000000001 ∨ ∀ z : Nat, (z : Int) = D (ixW x y q x.length y.length) + s.fin → b ≤ z) : Bsw sts x y D (q + 1) b := by
  refine ⟨h.le, fun hb => ?_, fun c hc => ?_⟩
  · obtain ⟨q', d, s', h1, h2⟩ := h.is hb
    exact ⟨q', d, s', by omega, h2⟩
  · obtain ⟨q', d, s', h1, h2, h3, h4, h5, h6⟩ := hc
    by_cases e : q' = q
    · subst e
      rw [hs] at h2
      simp only [Option.some.injEq] at h2
      subst h2
      rcases hn with hn | hn | hn
      · exact absurd (h4.symm.trans hn) h5
      · exact absurd hn h3
      · exact .inl (hn c (by rw [h4]; exact h6))
    · exact h.low c ⟨q', d, s', by omega, h2, h3, h4, h5, h6⟩
theorem Bsw.put (h : Bsw sts x y D q b) {s : St} {d z : Nat} (hs : sts[q]? = some s) (hd : D (ixW x y q x.length y.length) = d) (hdb : d ≠ big) (hf : s.fin ≠ 1000000001) (hz : (z : Int) = d + s.fin) (hlt : z < b) : Bsw sts x y D (q + 1) z := by
  refine ⟨by have := h.le; omega, fun _ => ⟨q, d, s, by omega, hs, hf, hd, hdb, hz⟩, fun c hc => ?_⟩
  obtain ⟨q', d', s', h1, h2, h3, h4, h5, h6⟩ := hc
  by_cases e : q' = q
  · subst e
    rw [hs] at h2
    simp only [Option.some.injEq] at h2
    subst h2
    left; omega
  · rcases h.low c ⟨q', d', s', by omega, h2, h3, h4, h5, h6⟩ with h7 | h7
    · left; omega
    · exact .inr h7
theorem Bsw.done (h : Bsw sts x y (gDst st sts x y fr) sts.length b) : gBest st sts x y fr = b := (mnB_eq h.le h.is h.low).symm
end
end Go.Proofs.Ytnpbdcjfealoeaa
