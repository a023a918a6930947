/- The least costs along edges: by rounds over all of them, or by a queue of what has got cheaper; both find the same. -/
import Derived.Test.YtjbldphpkkmdpaaReach
namespace Go.Proofs.Ytjbldphpkkmdpaa
open Go.RowKit
set_option linter.unusedSimpArgs false
set_option linter.unusedVariables false

/-- More than any path costs. -/
def big : Nat := 1152921504606846976
theorem big_eq : big = 1152921504606846976 := rfl

section
variable (Init : Nat → Nat → Prop) (Edge : Nat → Nat → Nat → Prop)

inductive Pth : Nat → Nat → Prop
  | init (q d : Nat) (h : Init q d) : Pth q d
  | step (q p d w : Nat) (h : Pth q d) (e : Edge q p w) : Pth p (d + w)

/-- What holds of costs all the time. -/
structure Snd (n : Nat) (L : List Nat) : Prop where
  len : L.length = n
  le : ∀ (q x : Nat), L[q]? = some x → x ≤ big
  path : ∀ (q x : Nat), L[q]? = some x → x < big → Pth Init Edge q x
  init : ∀ (q x d : Nat), L[q]? = some x → Init q d → x ≤ d
/-- The least costs. -/
def Lst (n : Nat) (L : List Nat) : Prop := Snd Init Edge n L ∧ ∀ (q x d : Nat), L[q]? = some x → Pth Init Edge q d → x ≤ d
open Classical in
noncomputable def dst (q : Nat) : Nat := if h : ∃ d, d < big ∧ Pth Init Edge q d then Classical.choose (least_nat h) else big
noncomputable def dstL (n : Nat) : List Nat := (List.range n).map (dst Init Edge)

variable {Init : Nat → Nat → Prop} {Edge : Nat → Nat → Nat → Prop} {n : Nat} {L L' : List Nat}

theorem dst_spec (q : Nat) : dst Init Edge q ≤ big ∧ (dst Init Edge q < big → Pth Init Edge q (dst Init Edge q)) ∧ ∀ d, Pth Init Edge q d → dst Init Edge q ≤ d := by
  unfold dst
  split
  · rename_i h
    obtain ⟨⟨h1, h2⟩, h3⟩ := Classical.choose_spec (least_nat h)
    refine ⟨Nat.le_of_lt h1, fun _ => h2, fun d hd => ?_⟩
    by_cases hb : d < big
    · exact h3 d ⟨hb, hd⟩
    · omega
  · rename_i h
    refine ⟨Nat.le_refl _, fun h => absurd h (by omega), fun d hd => ?_⟩
    by_cases hb : d < big
    · exact absurd ⟨d, hb, hd⟩ h
    · omega
theorem Lst.eq (h : Lst Init Edge n L) : L = dstL Init Edge n := by
  obtain ⟨hs, hm⟩ := h
  refine List.ext_getElem? fun q => ?_
  by_cases hq : q < n
  · obtain ⟨v, e1⟩ : ∃ v, L[q]? = some v := ⟨_, List.getElem?_eq_getElem (by rw [hs.len]; exact hq)⟩
    obtain ⟨d1, d2, d3⟩ := dst_spec (Init := Init) (Edge := Edge) q
    have h1 := hs.le q _ e1
    have : v = dst Init Edge q := by
      by_cases hb : v < big
      · have h2 := d3 _ (hs.path q _ e1 hb)
        have h3 := hm q _ _ e1 (d2 (by omega))
        omega
      · by_cases hb2 : dst Init Edge q < big
        · have h3 := hm q _ _ e1 (d2 hb2)
          omega
        · omega
    rw [e1, this]
    simp [dstL, List.getElem?_range hq]
  · rw [List.getElem?_eq_none (by rw [hs.len]; omega), List.getElem?_eq_none (by simp [dstL]; omega)]

/-- Nothing gets cheaper along an edge: all costs are least. -/
theorem Lst.of_closed (hs : Snd Init Edge n L) (hin : ∀ q p w, Edge q p w → q < n) (hc : ∀ (q p w x y : Nat), Edge q p w → L[q]? = some x → x < big → L[p]? = some y → y ≤ x + w) : Lst Init Edge n L := by
  refine ⟨hs, fun q x d hx hp => ?_⟩
  induction hp generalizing x with
  | init q d h => exact hs.init q x d hx h
  | step q p d w h e ih =>
    have hq := hin q p w e
    have hl : q < L.length := by rw [hs.len]; exact hq
    have e1 : L[q]? = some L[q] := List.getElem?_eq_getElem hl
    have h1 := ih L[q] e1
    by_cases hb : L[q] < big
    · have := hc q p w _ _ e e1 hb hx
      omega
    · have := hs.le p x hx
      omega

/-- A cost gets less along an edge. -/
theorem Snd.set (hs : Snd Init Edge n L) {q p w x : Nat} (e : Edge q p w) (hx : L[q]? = some x) (hb : x < big) (hlt : ∀ y : Nat, L[p]? = some y → x + w < y) : Snd Init Edge n (L.set p (x + w)) := by
  have hpth : Pth Init Edge p (x + w) := .step q p x w (hs.path q x hx hb) e
  refine ⟨by simpa using hs.len, fun r y hy => ?_, fun r y hy hb' => ?_, fun r y d hy hi => ?_⟩
  all_goals
    rw [List.getElem?_set] at hy
    split at hy
    · rename_i er
      subst er
      split at hy
      · rename_i hpl
        simp only [Option.some.injEq] at hy
        subst hy
        have h0 := hlt L[p] (List.getElem?_eq_getElem hpl)
        have h1 := hs.le p _ (List.getElem?_eq_getElem hpl)
        first
          | omega
          | exact hpth
          | (have h2 := hs.init p _ d (List.getElem?_eq_getElem hpl) hi; omega)
      · cases hy
    · first
        | exact hs.le r y hy
        | exact hs.path r y hy hb'
        | exact hs.init r y d hy hi

/-- A cost that cannot get less any more. -/
def Stl (Init : Nat → Nat → Prop) (Edge : Nat → Nat → Nat → Prop) (L : List Nat) (p : Nat) : Prop := ∀ (x d : Nat), L[p]? = some x → Pth Init Edge p d → x ≤ d
open Classical in
noncomputable def stlN (Init : Nat → Nat → Prop) (Edge : Nat → Nat → Nat → Prop) (L : List Nat) (n : Nat) : Nat := ((List.range n).filter fun p => decide (Stl Init Edge L p)).length
/-- All is least, or an edge leads from a settled state to an unsettled one and settles it. -/
theorem stl_next (hs : Snd Init Edge n L) (hin : ∀ q p w, Edge q p w → q < n) {p d : Nat} (hp : Pth Init Edge p d) : (∀ d', Pth Init Edge p d' → d ≤ d') → Stl Init Edge L p ∨
    ∃ q r w x, Edge q r w ∧ L[q]? = some x ∧ Stl Init Edge L q ∧ ¬ Stl Init Edge L r ∧ ∀ d', Pth Init Edge r d' → x + w ≤ d' := by
  induction hp with
  | init q d h =>
    intro hm
    refine .inl fun x d' hx hd' => ?_
    have h1 := hs.init q x d hx h
    have h2 := hm d' hd'
    omega
  | step q p d w h e ih =>
    intro hm
    have hq := hin q p w e
    have hl : q < L.length := by rw [hs.len]; exact hq
    have e1 : L[q]? = some L[q] := List.getElem?_eq_getElem hl
    have hm' : ∀ d', Pth Init Edge q d' → d ≤ d' := fun d' hd' => by have := hm _ (.step q p d' w hd' e); omega
    rcases ih hm' with hq' | h'
    · by_cases hst : Stl Init Edge L p
      · exact .inl hst
      · refine .inr ⟨q, p, w, L[q], e, e1, hq', hst, fun d' hd' => ?_⟩
        have h1 := hq' _ d e1 h
        have h2 := hm d' hd'
        omega
    · exact .inr h'
theorem least_path {p d : Nat} (h : Pth Init Edge p d) : ∃ d0, Pth Init Edge p d0 ∧ ∀ d', Pth Init Edge p d' → d0 ≤ d' := least_nat ⟨d, h⟩

theorem filter_lt {P Q : Nat → Bool} {l : List Nat} (h : ∀ x ∈ l, P x = true → Q x = true) {x : Nat} (hx : x ∈ l) (hQ : Q x = true) (hP : P x = false) : (l.filter P).length + 1 ≤ (l.filter Q).length := by
  have mono : ∀ l : List Nat, (∀ x ∈ l, P x = true → Q x = true) → (l.filter P).length ≤ (l.filter Q).length := by
    intro l
    induction l with
    | nil => simp
    | cons y l ih =>
      intro h
      have h1 := ih fun x hx => h x (by simp [hx])
      have h2 := h y (by simp)
      simp only [List.filter_cons]
      cases hp : P y <;> cases hq : Q y <;> simp_all <;> omega
  induction l with
  | nil => cases hx
  | cons y l ih =>
    simp only [List.filter_cons]
    rcases List.mem_cons.1 hx with rfl | hx
    · rw [if_neg (by simp [hP]), if_pos hQ]
      have := mono l fun x hx => h x (by simp [hx])
      simp
      exact this
    · have h1 := ih (fun x hx => h x (by simp [hx])) hx
      have h2 := h y (by simp)
      cases hp : P y <;> cases hq : Q y <;> simp_all <;> omega

/-- In rounds: k states are settled, and so it goes on; D tells which edges this round has seen (L0: the costs at its beginning). -/
structure Rd (Init : Nat → Nat → Prop) (Edge : Nat → Nat → Nat → Prop) (n k : Nat) (L0 : List Nat) (D : Nat → Nat → Nat → Prop) (L : List Nat) : Prop where
  snd : Snd Init Edge n L
  snd0 : Snd Init Edge n L0
  low : ∀ (q x x0 : Nat), L[q]? = some x → L0[q]? = some x0 → x ≤ x0
  cnt : k ≤ stlN Init Edge L0 n ∨ Lst Init Edge n L0
  seen : ∀ (q p w x y : Nat), D q p w → Edge q p w → L0[q]? = some x → L[p]? = some y → y ≤ x + w
theorem Rd.begin {k : Nat} (hs : Snd Init Edge n L) (hc : k ≤ stlN Init Edge L n ∨ Lst Init Edge n L) : Rd Init Edge n k L (fun _ _ _ => False) L :=
  ⟨hs, hs, fun q x x0 h1 h2 => by rw [h1] at h2; simp at h2; omega, hc, fun _ _ _ _ _ h => h.elim⟩
theorem Rd.skip {k : Nat} {L0 : List Nat} {D D' : Nat → Nat → Nat → Prop} (h : Rd Init Edge n k L0 D L) (hd : ∀ (q p w x y : Nat), D' q p w → D q p w ∨ (Edge q p w → L0[q]? = some x → L[p]? = some y → y ≤ x + w)) : Rd Init Edge n k L0 D' L :=
  ⟨h.snd, h.snd0, h.low, h.cnt, fun q p w x y h1 h2 h3 h4 => by
    rcases hd q p w x y h1 with h5 | h5
    · exact h.seen q p w x y h5 h2 h3 h4
    · exact h5 h2 h3 h4⟩
theorem Rd.set {k q0 p0 w0 x0 : Nat} {L0 : List Nat} {D D' : Nat → Nat → Nat → Prop} (h : Rd Init Edge n k L0 D L) (e : Edge q0 p0 w0) (hx : L[q0]? = some x0) (hb : x0 < big) (hlt : ∀ y : Nat, L[p0]? = some y → x0 + w0 < y) (hp0 : p0 < n)
    (hd : ∀ q p w, D' q p w → D q p w ∨ (q = q0 ∧ p = p0 ∧ w = w0)) : Rd Init Edge n k L0 D' (L.set p0 (x0 + w0)) := by
  have hlow : ∀ (q x x1 : Nat), (L.set p0 (x0 + w0))[q]? = some x → L[q]? = some x1 → x ≤ x1 := by
    intro q x x1 h1 h2
    rw [List.getElem?_set] at h1
    split at h1
    · rename_i eq
      subst eq
      split at h1
      · simp only [Option.some.injEq] at h1
        have := hlt x1 h2
        omega
      · cases h1
    · rw [h1] at h2; simp at h2; omega
  have hget : ∀ q, q < n → ∃ x, L[q]? = some x := fun q hq => ⟨L[q]'(by rw [h.snd.len]; exact hq), List.getElem?_eq_getElem _⟩
  have hlt' : ∀ (q x : Nat), (L.set p0 (x0 + w0))[q]? = some x → q < n := fun q x hq => by have := (List.getElem?_eq_some_iff.1 hq).1; rw [List.length_set, h.snd.len] at this; exact this
  refine ⟨h.snd.set e hx hb hlt, h.snd0, fun q x x1 h1 h2 => ?_, h.cnt, fun q p w x y h1 h2 h3 h4 => ?_⟩
  · obtain ⟨z, hz⟩ := hget q (hlt' q x h1)
    have a1 := hlow q x z h1 hz
    have a2 := h.low q z x1 hz h2
    omega
  · obtain ⟨z, hz⟩ := hget p (hlt' p y h4)
    have a1 := hlow p y z h4 hz
    rcases hd q p w h1 with h5 | ⟨rfl, rfl, rfl⟩
    · have := h.seen q p w x z h5 h2 h3 hz
      omega
    · have a2 := h.low q x0 x hx h3
      rw [List.getElem?_set_self (by rw [h.snd.len]; exact hp0)] at h4
      simp only [Option.some.injEq] at h4
      omega
open Classical in
theorem Rd.finish {k : Nat} {L0 : List Nat} {D : Nat → Nat → Nat → Prop} (h : Rd Init Edge n k L0 D L) (hin : ∀ q p w, Edge q p w → q < n ∧ p < n) (hini : ∀ q d, Init q d → q < n) (hd : ∀ q p w, Edge q p w → D q p w) : Snd Init Edge n L ∧ (k + 1 ≤ stlN Init Edge L n ∨ Lst Init Edge n L) := by
  refine ⟨h.snd, ?_⟩
  have hget : ∀ (M : List Nat), M.length = n → ∀ q, q < n → ∃ x, M[q]? = some x := fun M hM q hq => ⟨M[q]'(by rw [hM]; exact hq), List.getElem?_eq_getElem _⟩
  have hmono : ∀ p, Stl Init Edge L0 p → Stl Init Edge L p := by
    intro p hp x d hx hpd
    have hpn : p < n := by have := (List.getElem?_eq_some_iff.1 hx).1; rw [h.snd.len] at this; exact this
    obtain ⟨x0, hx0⟩ := hget L0 h.snd0.len p hpn
    have a1 := h.low p x x0 hx hx0
    have a2 := hp x0 d hx0 hpd
    omega
  by_cases hall : ∀ p, p < n → Stl Init Edge L0 p
  · exact .inr ⟨h.snd, fun q x d hx hp => hmono q (hall q (by have := (List.getElem?_eq_some_iff.1 hx).1; rw [h.snd.len] at this; exact this)) x d hx hp⟩
  · have hk : k ≤ stlN Init Edge L0 n := by
      rcases h.cnt with hc | hc
      · exact hc
      · exact absurd (fun p _ x d hx hp => hc.2 p x d hx hp) hall
    obtain ⟨p, hp⟩ := Classical.not_forall.1 hall
    obtain ⟨hpn, hps⟩ := Classical.not_imp.1 hp
    obtain ⟨d, hpd⟩ : ∃ d, Pth Init Edge p d := by
      refine Classical.byContradiction fun hno => hps fun x d _ hd => (hno ⟨d, hd⟩).elim
    obtain ⟨d0, h1, h2⟩ := least_path hpd
    rcases stl_next h.snd0 (fun q p w e => (hin q p w e).1) h1 h2 with h3 | ⟨q, r, w, x, e, hx, hq, hr, hmin⟩
    · exact absurd h3 hps
    · have hrn := (hin q r w e).2
      obtain ⟨y, hy⟩ := hget L h.snd.len r hrn
      have hry : Stl Init Edge L r := fun y' d' hy' hd' => by
        rw [hy] at hy'
        simp only [Option.some.injEq] at hy'
        subst hy'
        have a1 := h.seen q r w x y (hd q r w e) e hx hy
        have a2 := hmin d' hd'
        omega
      left
      have := filter_lt (P := fun p => decide (Stl Init Edge L0 p)) (Q := fun p => decide (Stl Init Edge L p)) (l := List.range n) (fun x _ hx => by simpa using hmono x (by simpa using hx)) (List.mem_range.2 hrn) (by simpa using hry) (by simpa using hr)
      unfold stlN at hk ⊢
      omega
open Classical in
theorem Rd.all {k : Nat} (hs : Snd Init Edge n L) (hc : k ≤ stlN Init Edge L n ∨ Lst Init Edge n L) (hk : n ≤ k) : L = dstL Init Edge n := by
  rcases hc with hc | hc
  · refine Lst.eq ⟨hs, fun q x d hx hp => ?_⟩
    have hq : q < n := by have := (List.getElem?_eq_some_iff.1 hx).1; rw [hs.len] at this; exact this
    have hfull : ∀ p ∈ List.range n, decide (Stl Init Edge L p) = true := by
      have h1 : ((List.range n).filter fun p => decide (Stl Init Edge L p)).length = (List.range n).length := by
        have := List.length_filter_le (fun p => decide (Stl Init Edge L p)) (List.range n)
        unfold stlN at hc
        simp only [List.length_range] at this ⊢
        omega
      exact List.length_filter_eq_length_iff.1 h1
    have := hfull q (List.mem_range.2 hq)
    exact (of_decide_eq_true this) x d hx hp
  · exact hc.eq

/-- By a queue: T is what waits. -/
structure Que (Init : Nat → Nat → Prop) (Edge : Nat → Nat → Nat → Prop) (n : Nat) (X : Nat → Prop) (L : List Nat) (T : List Nat) : Prop where
  snd : Snd Init Edge n L
  fin : ∀ q ∈ T, ∃ x : Nat, L[q]? = some x ∧ x < big
  nodup : T.Nodup
  edge : ∀ (q p w x y : Nat), q ∉ T → ¬ X q → Edge q p w → L[q]? = some x → x < big → L[p]? = some y → y ≤ x + w
theorem Que.done {T : List Nat} (h : Que Init Edge n (fun _ => False) L T) (hT : T = []) (hin : ∀ q p w, Edge q p w → q < n) : L = dstL Init Edge n :=
  (Lst.of_closed h.snd hin fun q p w x y e hx hb hy => h.edge q p w x y (by simp [hT]) (by simp) e hx hb hy).eq
theorem Que.take {T : List Nat} {q : Nat} (h : Que Init Edge n (fun _ => False) L (q :: T)) : q ∉ T ∧ Que Init Edge n (fun x => x = q) L T := by
  have hn := List.nodup_cons.1 h.nodup
  exact ⟨hn.1, h.snd, fun x hx => h.fin x (by simp [hx]), hn.2, fun x p w a b h1 h2 h3 h4 h5 h6 => h.edge x p w a b (by simp [h1]; exact h2) (by simp) h3 h4 h5 h6⟩
theorem Que.settle {T : List Nat} {q : Nat} (h : Que Init Edge n (fun x => x = q) L T) (hq : ∀ (p w x y : Nat), Edge q p w → L[q]? = some x → L[p]? = some y → y ≤ x + w) : Que Init Edge n (fun _ => False) L T :=
  ⟨h.snd, h.fin, h.nodup, fun r p w a b h1 _ h3 h4 h5 h6 => by
    by_cases e : r = q
    · subst e; exact hq p w a b h3 h4 h6
    · exact h.edge r p w a b h1 e h3 h4 h5 h6⟩
/-- A cost gets less; its state waits from now on (T': T, with it). -/
theorem Que.less {T T' : List Nat} {q p w x : Nat} (h : Que Init Edge n (fun z => z = q) L T) (e : Edge q p w) (hx : L[q]? = some x) (hb : x < big) (hp : p < n) (hlt : ∀ y : Nat, L[p]? = some y → x + w < y) (hT : T' = if p ∈ T then T else T ++ [p]) : Que Init Edge n (fun z => z = q) (L.set p (x + w)) T' := by
  have hpl : p < L.length := by rw [h.snd.len]; exact hp
  have hpT : p ∈ T' := by rw [hT]; split <;> simp_all
  have hsub : ∀ r, r ∉ T' → r ∉ T ∧ r ≠ p := by
    intro r hr
    refine ⟨fun hm => hr ?_, fun e' => hr (e' ▸ hpT)⟩
    rw [hT]; split <;> simp [hm]
  have hb2 : x + w < big := by
    have h1 := hlt L[p] (List.getElem?_eq_getElem hpl)
    have h2 := h.snd.le p _ (List.getElem?_eq_getElem hpl)
    omega
  refine ⟨h.snd.set e hx hb hlt, fun r hr => ?_, ?_, fun r s v a b h1 h2 h3 h4 h5 h6 => ?_⟩
  · by_cases er : r = p
    · subst er
      exact ⟨x + w, by rw [List.getElem?_set_self hpl], hb2⟩
    · have hrT : r ∈ T := by
        rw [hT] at hr
        split at hr
        · exact hr
        · rcases List.mem_append.1 hr with hr | hr
          · exact hr
          · exact absurd (by simpa using hr) er
      obtain ⟨y, h1, h2⟩ := h.fin r hrT
      exact ⟨y, by rw [List.getElem?_set_ne (Ne.symm er)]; exact h1, h2⟩
  · rw [hT]
    split
    · exact h.nodup
    · rename_i hn
      rw [List.nodup_append]
      exact ⟨h.nodup, by simp, fun a ha b hb => by simp at hb; subst hb; rintro rfl; exact hn ha⟩
  · obtain ⟨h7, h8⟩ := hsub r h1
    rw [List.getElem?_set_ne (Ne.symm h8)] at h4
    by_cases es : s = p
    · subst es
      rw [List.getElem?_set_self hpl] at h6
      simp only [Option.some.injEq] at h6
      have h9 := hlt L[s] (List.getElem?_eq_getElem hpl)
      have h10 := h.edge r s v a _ h7 h2 h3 h4 h5 (List.getElem?_eq_getElem hpl)
      omega
    · rw [List.getElem?_set_ne (Ne.symm es)] at h6
      exact h.edge r s v a b h7 h2 h3 h4 h5 h6
theorem sum_set : ∀ (L : List Nat) (p x y : Nat), L[p]? = some y → x < y → (L.set p x).sum + 1 ≤ L.sum
  | [], p, x, y, h, _ => by simp at h
  | z :: L, 0, x, y, h, hlt => by simp at h; subst h; simp; omega
  | z :: L, p + 1, x, y, h, hlt => by
    have := sum_set L p x y (by simpa using h) hlt
    simp
    omega
end
theorem nodup_len : ∀ {n : Nat} {l : List Nat}, l.Nodup → (∀ x ∈ l, x < n) → l.length ≤ n
  | 0, l, _, h => by
    cases l with
    | nil => simp
    | cons x l => exact absurd (h x (by simp)) (by omega)
  | n + 1, l, hd, h => by
    have h1 := nodup_len (n := n) (l := l.filter (fun x => x != n)) (hd.filter _) (fun x hx => by
      simp only [List.mem_filter, bne_iff_ne, ne_eq] at hx
      have := h x hx.1
      omega)
    have h2 : ∀ (l : List Nat), l.Nodup → l.length ≤ (l.filter (fun x => x != n)).length + 1 := by
      intro l
      induction l with
      | nil => simp
      | cons y l ih =>
        intro hd
        have hd' := List.nodup_cons.1 hd
        by_cases e : y = n
        · subst e
          have : l.filter (fun x => x != y) = l := List.filter_eq_self.2 fun x hx => by
            simp only [bne_iff_ne, ne_eq]; rintro rfl; exact hd'.1 hx
          simp [List.filter_cons, this]
        · have := ih hd'.2
          simp [List.filter_cons, e]
          omega
    have := h2 l hd
    omega
end Go.Proofs.Ytjbldphpkkmdpaa
