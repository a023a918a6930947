/- The cheapest path, and of the cheapest ones the shortest: what the two ways of counting arcs find is the same. -/
import Derived.Test.YtnpbdcjfealoeaaDist
namespace Go.Proofs.Ytnpbdcjfealoeaa
open Go.RowKit
set_option linter.unusedSimpArgs false
set_option linter.unusedVariables false

/-- A fact that no tactic looks into. -/
structure Bxd (p : Prop) : Prop where
  out : p
section
variable (Init : Nat → Nat → Prop) (Edge : Nat → Nat → Nat → Prop)
/-- A path with its cost and its number of arcs. -/
inductive P2 : Nat → Nat → Nat → Prop
  | init (q d : Nat) (h : Init q d) : P2 q d 0
  | step (q p d w b : Nat) (h : P2 q d b) (e : Edge q p w) : P2 p (d + w) (b + 1)
def TI (q d : Nat) : Prop := d = 0 ∧ dst Init Edge q < big ∧ Init q (dst Init Edge q)
def TE (p q w : Nat) : Prop := w = 1 ∧ dst Init Edge p < big ∧ dst Init Edge q < big ∧ ∃ v, Edge p q v ∧ dst Init Edge p + v = dst Init Edge q
variable {Init : Nat → Nat → Prop} {Edge : Nat → Nat → Nat → Prop} {n : Nat}
theorem P2.pth {q d b : Nat} (h : P2 Init Edge q d b) : Pth Init Edge q d := by
  induction h with
  | init q d h => exact .init q d h
  | step q p d w b _ e ih => exact .step q p d w ih e
theorem Pth.p2 {q d : Nat} (h : Pth Init Edge q d) : ∃ b, P2 Init Edge q d b := by
  induction h with
  | init q d h => exact ⟨0, .init q d h⟩
  | step q p d w _ e ih => obtain ⟨b, hb⟩ := ih; exact ⟨b + 1, .step q p d w b hb e⟩
theorem P2.tight {q d b : Nat} (h : P2 Init Edge q d b) : d = dst Init Edge q → d < big → Pth (TI Init Edge) (TE Init Edge) q b := by
  induction h with
  | init q d h => intro h1 h2; exact .init q 0 ⟨rfl, by omega, h1 ▸ h⟩
  | step q p d w b hq e ih =>
    intro h1 h2
    have h3 := (dst_spec (Init := Init) (Edge := Edge) q).2.2 d hq.pth
    have h4 := (dst_spec (Init := Init) (Edge := Edge) q).2.1 (by omega)
    have h5 := (dst_spec (Init := Init) (Edge := Edge) p).2.2 _ (.step q p _ w h4 e)
    have h6 : d = dst Init Edge q := by omega
    exact .step q p b 1 (ih h6 (by omega)) ⟨rfl, by omega, by omega, w, e, by omega⟩
theorem Pth.tight {q b : Nat} (h : Pth (TI Init Edge) (TE Init Edge) q b) : dst Init Edge q < big ∧ P2 Init Edge q (dst Init Edge q) b := by
  induction h with
  | init q d h => obtain ⟨rfl, h1, h2⟩ := h; exact ⟨h1, .init q _ h2⟩
  | step q p d w hq e ih =>
    obtain ⟨rfl, h1, h2, v, h3, h4⟩ := e
    refine ⟨h2, ?_⟩
    rw [← h4]
    exact .step q p _ v d ih.2 h3
theorem tight_pred {q k : Nat} (h : Pth (TI Init Edge) (TE Init Edge) q (k + 1)) : ∃ p v, Pth (TI Init Edge) (TE Init Edge) p k ∧ Edge p q v ∧ dst Init Edge p < big ∧ dst Init Edge p + v = dst Init Edge q := by
  cases h' : k + 1 with
  | zero => omega
  | succ j =>
    rw [h'] at h
    generalize hj : j + 1 = d at h
    cases h with
    | init _ _ h => obtain ⟨rfl, _⟩ := h; omega
    | step p _ d w h e =>
      obtain ⟨rfl, h1, h2, v, h3, h4⟩ := e
      obtain rfl : d = k := by omega
      exact ⟨p, v, h, h3, h1, h4⟩
theorem tight_zero {q : Nat} (h : Pth (TI Init Edge) (TE Init Edge) q 0) : dst Init Edge q < big ∧ Init q (dst Init Edge q) := by
  generalize hj : 0 = d at h
  cases h with
  | init _ _ h => exact h.2
  | step p _ d w h e => obtain ⟨rfl, _⟩ := e; omega
/-- The least number of arcs. -/
def LeastB (Init : Nat → Nat → Prop) (Edge : Nat → Nat → Nat → Prop) (q k : Nat) : Prop := Pth (TI Init Edge) (TE Init Edge) q k ∧ ∀ d, Pth (TI Init Edge) (TE Init Edge) q d → k ≤ d
theorem LeastB.pred {q k : Nat} (h : LeastB Init Edge q (k + 1)) : ∃ p v, LeastB Init Edge p k ∧ Edge p q v ∧ dst Init Edge p < big ∧ dst Init Edge p + v = dst Init Edge q := by
  obtain ⟨p, v, h1, h2, h3, h4⟩ := tight_pred h.1
  refine ⟨p, v, ⟨h1, fun d hd => ?_⟩, h2, h3, h4⟩
  have := h.2 (d + 1) (.step p q d 1 hd ⟨rfl, h3, (Pth.tight h.1).1, v, h2, h4⟩)
  omega
open Classical in
theorem LeastB.rank (hin : ∀ q p w, Edge q p w → q < n) : ∀ (k q : Nat), LeastB Init Edge q k → k ≤ ((List.range n).filter fun r => decide (∃ j, j < k ∧ Pth (TI Init Edge) (TE Init Edge) r j)).length
  | 0, _, _ => Nat.zero_le _
  | k + 1, q, h => by
    obtain ⟨p, v, h1, h2, _, _⟩ := h.pred
    have h3 := LeastB.rank hin k p h1
    have := filter_lt (P := fun r => decide (∃ j, j < k ∧ Pth (TI Init Edge) (TE Init Edge) r j)) (Q := fun r => decide (∃ j, j < k + 1 ∧ Pth (TI Init Edge) (TE Init Edge) r j)) (l := List.range n) (x := p) (fun x _ hx => by
      obtain ⟨j, h4, h5⟩ := of_decide_eq_true hx
      exact decide_eq_true ⟨j, by omega, h5⟩) (List.mem_range.2 (hin p q v h2)) (decide_eq_true ⟨k, by omega, h1.1⟩) (decide_eq_false fun ⟨j, h4, h5⟩ => by have := h1.2 j h5; omega)
    omega
theorem LeastB.le (hin : ∀ q p w, Edge q p w → q < n) {q k : Nat} (h : LeastB Init Edge q k) : k ≤ n := by
  classical
  have h1 := LeastB.rank hin k q h
  have h2 := List.length_filter_le (fun r => decide (∃ j, j < k ∧ Pth (TI Init Edge) (TE Init Edge) r j)) (List.range n)
  simp only [List.length_range] at h2
  omega
theorem LeastB.dst (hin : ∀ q p w, Edge q p w → q < n) (hn : n < big) {q k : Nat} (h : LeastB Init Edge q k) : dst (TI Init Edge) (TE Init Edge) q = k := by
  have h1 := h.le hin
  obtain ⟨_, h2, h3⟩ := dst_spec (Init := TI Init Edge) (Edge := TE Init Edge) q
  have h4 := h3 k h.1
  have h5 := h.2 _ (h2 (by omega))
  omega
theorem leastB_ex {q : Nat} (h : dst Init Edge q < big) : ∃ k, LeastB Init Edge q k := by
  obtain ⟨b, hb⟩ := ((dst_spec (Init := Init) (Edge := Edge) q).2.1 h).p2
  exact least_nat ⟨b, hb.tight rfl h⟩
theorem leastB_lt {q k : Nat} (h : LeastB Init Edge q k) : Go.Proofs.Ytnpbdcjfealoeaa.dst Init Edge q < big := (Pth.tight h.1).1

def leT (a b c d : Nat) : Prop := a < c ∨ a = c ∧ b ≤ d
def ltT (a b c d : Nat) : Prop := a < c ∨ a = c ∧ b < d
instance (a b c d : Nat) : Decidable (ltT a b c d) := inferInstanceAs (Decidable (_ ∨ _))
def inf : Nat := 1000000001
/-- What holds of pairs of costs and numbers all the time. -/
structure Tws (Init : Nat → Nat → Prop) (Edge : Nat → Nat → Nat → Prop) (n : Nat) (L : List (Nat × Nat)) : Prop where
  len : L.length = n
  path : ∀ (q a b : Nat), L[q]? = some (a, b) → (a = inf ∧ b = inf) ∨ (a ≤ 1000000000 ∧ b ≤ 1000000000 ∧ P2 Init Edge q a b)
  init : ∀ (q a b d : Nat), L[q]? = some (a, b) → Init q d → leT a b d 0
def Twc (Edge : Nat → Nat → Nat → Prop) (D : Nat → Nat → Nat → Prop) (L : List (Nat × Nat)) : Prop := ∀ (p q w a b c d : Nat), D p q w → Edge p q w → L[p]? = some (a, b) → L[q]? = some (c, d) → a ≤ 1000000000 → a + w ≤ 1000000000 → b + 1 ≤ 1000000000 → ¬ ltT (a + w) (b + 1) c d
noncomputable def tws (Init : Nat → Nat → Prop) (Edge : Nat → Nat → Nat → Prop) (q : Nat) : Nat × Nat := if dst Init Edge q < big then (dst Init Edge q, dst (TI Init Edge) (TE Init Edge) q) else (inf, inf)
variable {L : List (Nat × Nat)}
theorem Tws.up (h : Tws Init Edge n L) (hc : Twc Edge (fun _ _ _ => True) L) (hin : ∀ q p w, Edge q p w → q < n) (hn : n ≤ 60) (hd : ∀ q, dst Init Edge q < big → dst Init Edge q ≤ 1000000000) : ∀ (k q a b : Nat), LeastB Init Edge q k → L[q]? = some (a, b) → leT a b (dst Init Edge q) k
  | 0, q, a, b, hk, hL => h.init q a b _ hL (tight_zero hk.1).2
  | k + 1, q, c, d, hk, hL => by
    obtain ⟨p, v, h1, h2, h3, h4⟩ := hk.pred
    have hkn := hk.le hin
    have hp := hin p q v h2
    obtain ⟨⟨a, b⟩, hLp⟩ : ∃ x, L[p]? = some x := ⟨_, List.getElem?_eq_getElem (by rw [h.len]; exact hp)⟩
    have ih := Tws.up h hc hin hn hd k p a b h1 hLp
    have hdp := hd p h3
    have hdq := hd q (leastB_lt hk)
    rcases h.path p a b hLp with ⟨h5, _⟩ | ⟨h5, h6, h7⟩
    · simp only [leT, inf] at ih h5; omega
    · have h8 := (dst_spec (Init := Init) (Edge := Edge) p).2.2 a h7.pth
      have h9 : a = dst Init Edge p ∧ b ≤ k := by simp only [leT] at ih; omega
      have h10 := hc p q v a b c d trivial h2 hLp hL h5 (by omega) (by omega)
      simp only [ltT, leT] at h10 ⊢
      omega
theorem Tws.eq (h : Tws Init Edge n L) (hc : Twc Edge (fun _ _ _ => True) L) (hin : ∀ q p w, Edge q p w → q < n) (hn : n ≤ 60) (hd : ∀ q, dst Init Edge q < big → dst Init Edge q ≤ 1000000000) : L = (List.range n).map (tws Init Edge) := by
  have hbig := big_eq
  refine List.ext_getElem? fun q => ?_
  by_cases hq : q < n
  · obtain ⟨⟨a, b⟩, e1⟩ : ∃ v, L[q]? = some v := ⟨_, List.getElem?_eq_getElem (by rw [h.len]; exact hq)⟩
    rw [e1, List.getElem?_map, List.getElem?_range hq, Option.map_some, Option.some.injEq]
    unfold tws
    have hsp := (dst_spec (Init := Init) (Edge := Edge) q).2.2
    by_cases hf : dst Init Edge q < big
    · rw [if_pos hf]
      obtain ⟨k, hk⟩ := leastB_ex hf
      have hup := Tws.up h hc hin hn hd k q a b hk e1
      have hdq := hd q hf
      rw [hk.dst hin (by omega)]
      rcases h.path q a b e1 with ⟨h5, _⟩ | ⟨h5, h6, h7⟩
      · simp only [leT, inf] at hup h5; omega
      · have h8 := hsp a h7.pth
        have h9 : a = dst Init Edge q ∧ b ≤ k := by simp only [leT] at hup; omega
        have h10 := hk.2 b (h7.tight h9.1 (by omega))
        rw [h9.1, show b = k by omega]
    · rw [if_neg hf]
      rcases h.path q a b e1 with ⟨h5, h6⟩ | ⟨h5, h6, h7⟩
      · rw [h5, h6]
      · have := hsp a h7.pth; omega
  · rw [List.getElem?_eq_none (by rw [h.len]; omega), List.getElem?_eq_none (by simp; omega)]
theorem Tws.set (h : Tws Init Edge n L) {p q w a b c d : Nat} (e : Edge p q w) (hp : L[p]? = some (a, b)) (ha : a ≤ 1000000000) (hq : L[q]? = some (c, d)) (h1 : a + w ≤ 1000000000) (h2 : b + 1 ≤ 1000000000) (hlt : ltT (a + w) (b + 1) c d) : Tws Init Edge n (L.set q (a + w, b + 1)) := by
  have hp2 : P2 Init Edge p a b := by
    rcases h.path p a b hp with ⟨h5, _⟩ | ⟨_, _, h7⟩
    · simp only [inf] at h5; omega
    · exact h7
  have hql := (List.getElem?_eq_some_iff.1 hq).1
  refine ⟨by simpa using h.len, fun r x y hr => ?_, fun r x y z hr hi => ?_⟩
  all_goals
    rw [List.getElem?_set] at hr
    by_cases er : q = r
    · subst er
      rw [if_pos rfl, if_pos hql] at hr
      simp only [Option.some.injEq, Prod.mk.injEq] at hr
      obtain ⟨rfl, rfl⟩ := hr
      first
        | exact .inr ⟨h1, h2, .step p q a w b hp2 e⟩
        | (have := h.init q c d z hq hi; simp only [leT, ltT] at this hlt ⊢; omega)
    · rw [if_neg er] at hr
      first
        | exact h.path r x y hr
        | exact h.init r x y z hr hi
def tcode (x : Nat × Nat) : Nat := x.1 * 2000000000 + x.2
def tmass (L : List (Nat × Nat)) : Nat := (L.map tcode).sum
theorem tmass_set {q a b c d : Nat} (hq : L[q]? = some (c, d)) (hb : b ≤ 1000000001) (hd : d ≤ 1000000001) (hlt : ltT a b c d) : tmass (L.set q (a, b)) + 1 ≤ tmass L := by
  unfold tmass
  rw [List.map_set]
  refine sum_set (L.map tcode) q _ (tcode (c, d)) (by simp [hq]) ?_
  simp only [tcode, ltT] at hlt ⊢
  omega
end

/-- The way along tight arcs: which arcs are taken. -/
def goodA (F T : List Nat) (q : Nat) (a : Ar) : Prop := ∃ (p f : Nat), a.t = (p : Int) ∧ F[p]? = some f ∧ f < big ∧ ∃ (g t u : Nat), F[q]? = some g ∧ a.w + (f : Int) = (g : Int) ∧ T[p]? = some t ∧ T[q]? = some u ∧ t + 1 = u
open Classical in
noncomputable def wayL (sts : List St) (F T : List Nat) : Nat → Nat → List Int
  | 0, _ => []
  | k + 1, q => match sts[q]? with
    | none => []
    | some x => if h : ∃ i, ∃ a, x.arcs[i]? = some a ∧ goodA F T q a then ((Classical.choose (least_nat h) : Nat) : Int) :: wayL sts F T k (x.arcs.getD (Classical.choose (least_nat h)) ⟨0, 0, 0, 0⟩).t.toNat else []
theorem wayL_step {sts : List St} {F T : List Nat} {k q i : Nat} {x : St} {a : Ar} (hx : sts[q]? = some x) (ha : x.arcs[i]? = some a) (hg : goodA F T q a) (hno : ∀ (j : Nat) (b : Ar), j < i → x.arcs[j]? = some b → ¬ goodA F T q b) : wayL sts F T (k + 1) q = (i : Int) :: wayL sts F T k a.t.toNat := by
  have h : ∃ i, ∃ a, x.arcs[i]? = some a ∧ goodA F T q a := ⟨i, a, ha, hg⟩
  have hc := Classical.choose_spec (least_nat h)
  have he : Classical.choose (least_nat h) = i := by
    obtain ⟨⟨b, h1, h2⟩, h3⟩ := hc
    have h4 := h3 i ⟨a, ha, hg⟩
    by_cases h5 : Classical.choose (least_nat h) < i
    · exact absurd h2 (hno _ b h5 h1)
    · omega
  simp only [wayL, hx]
  rw [dif_pos h, he]
  simp [List.getD_eq_getElem?_getD, ha]
end Go.Proofs.Ytnpbdcjfealoeaa
