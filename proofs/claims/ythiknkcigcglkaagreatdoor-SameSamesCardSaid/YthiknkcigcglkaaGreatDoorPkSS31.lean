/- Part 31 of what the law SameSames rests on. -/
import Derived.Test.YthiknkcigcglkaaGreatDoorPkSS28
namespace Go.Proofs.YthiknkcigcglkaaGreatDoor
open Go.RowKit
open List (ext_getElem? getD_eq_getElem?_getD length_append length_cons length_map map_append map_cons map_nil mem_append mem_cons mem_cons_of_mem mem_cons_self mem_map mem_of_getElem? mem_singleton take_of_length_le zipIdx_cons)
open Nat (le_refl)
open Option (getD_some)
set_option linter.unusedSimpArgs false
set_option linter.unusedVariables false
set_option maxRecDepth 100000
set_option maxHeartbeats 8000000
variable {d d' y : List Nat} {F bg c j n q s : Nat} {f i o t w : Int} {p : Ar} {v : Int → Int → Nat → Nat} {l' lj : List (Int × Int)} {L : RcL} {k : Int × Int}
def toK (d : List Nat) : Nat → List (Nat × Nat)
  | 0 => []
  | k + 1 => if d.getD k big = big then toK d k else toK d k ++ [(k, d.getD k big)]
def toP (d : List Nat) : List (Nat × Nat) := toK d d.length
theorem uu {d : List Nat} {x : Nat × Nat} : ∀ {k : Nat}, x ∈ toK d k ↔ x.1 < k ∧ d.getD x.1 big = x.2 ∧ x.2 ≠ big
  | 0 => by simp [toK]
  | k + 1 => by
    have ih := uu (d := d) (x := x) (k := k); rw [toK]; generalize big = bg at ih ⊢
    split
    · grind
    grind
theorem qA4 (d : List Nat) : ∀ k, (toK d k).Pairwise fun x y => x.1 < y.1
  | 0 => List.Pairwise.nil
  | k + 1 => by
    rw [toK]
    split
    · exact qA4 d k
    rw [List.pairwise_append]; refine ⟨qA4 d k, List.pairwise_singleton _ _, fun x hx y hy => ?_⟩; rw [mem_singleton] at hy; subst hy; exact (uu.1 hx).1
theorem j92 (d : List Nat) : ∀ k, (toK d k).length ≤ k
  | 0 => le_refl _
  | k + 1 => by
    have := j92 d k; rw [toK]
    split
    · omega
    rw [length_append, List.length_singleton]; omega
theorem jJ5 (hl : d.length = d'.length) (h : toP d = toP d') : d = d' := by
  have key : ∀ q, q < d.length → d.getD q big = d'.getD q big := by
    intro q hq; generalize hb : d.getD q big = v; generalize hb' : d'.getD q big = v'
    by_cases e : v = big
    · by_cases e' : v' = big
      · rw [e, e']
      have h1 : (q, v') ∈ toP d' := uu.2 ⟨by simp only; omega, hb', e'⟩; rw [← h] at h1; have h2 := (uu.1 h1).2.1; simp only at h2; rw [hb] at h2; exact h2
    have h1 : (q, v) ∈ toP d := uu.2 ⟨hq, hb, e⟩; rw [h] at h1; have h2 := (uu.1 h1).2.1; simp only at h2; rw [hb'] at h2; exact h2.symm
  refine List.ext_getElem hl fun q h1 h2 => ?_; have := key q h1
  rwa [getD_eq_getElem?_getD, getD_eq_getElem?_getD, List.getElem?_eq_getElem h1, List.getElem?_eq_getElem h2] at this
/- What a set costs to end. -/
def q40 (x : Nat) : Int := if x = big then -1 else (x : Int)
theorem jJ6 (hf : 0 ≤ f) (hc : c ≠ bg) (hF : F ≤ bg) (hb : c + f.toNat < bg) :
    (if f ≠ 1000000001 ∧ ((if F = bg then (-1 : Int) else (F : Int)) < 0 ∨ (c : Int) + f < (if F = bg then (-1 : Int) else (F : Int))) then (c : Int) + f else (if F = bg then (-1 : Int) else (F : Int))) =
    (if (if c ≠ bg ∧ f ≠ 1000000001 ∧ c + f.toNat < F then c + f.toNat else F) = bg then (-1 : Int) else (((if c ≠ bg ∧ f ≠ 1000000001 ∧ c + f.toNat < F then c + f.toNat else F) : Nat) : Int)) := by
  by_cases h1 : f = 1000000001
  · simp [h1]
  grind
theorem jm9 {sts : List St} {l : List (Nat × Nat)} {p : Nat × Nat} {x : St} (hx : sts[p.1]? = some x) : g9 sts (l ++ [p]) = if x.fin ≠ 1000000001 ∧ (g9 sts l < 0 ∨ (p.2 : Int) + x.fin < g9 sts l) then (p.2 : Int) + x.fin else g9 sts l := by
  grind [g9]
theorem qA5 {x y : Nat} (h : x ≤ 10000000000000) (hy : y ≤ 10000000000000) : x + y < big := by grind [big, Nat.lt_of_le_of_lt]
theorem qZ6 {sts : List St} {d : List Nat} (hl : d.length = sts.length) (hd : ∀ x ∈ d, x = big ∨ x ≤ 1000000000000) (hf : ∀ x ∈ sts, vy x.fin = true) : ∀ k, k ≤ d.length → g9 sts (toK d k) = q40 (wX sts d k)
  | 0, _ => rfl
  | k + 1, hk => by
    have ih := qZ6 hl hd hf k zg; have hkd : k < d.length := by omega
    have hx : sts[k]? = some (sts[k]'zg) := List.getElem?_eq_getElem zg; have hc : d[k]? = some d[k] := List.getElem?_eq_getElem hkd; have hcb := hd _ (List.getElem_mem hkd)
    have hfo := hf _ (List.getElem_mem (show k < sts.length by omega))
    generalize sts[k]'zg = x at hx hfo; generalize d[k] = c at hc hcb; rw [toK, j82 hc hx, getD_eq_getElem?_getD, hc, getD_some]; simp only [vy, decide_eq_true_eq] at hfo
    by_cases e : c = big
    · rw [if_pos e, if_neg (fun h => h.1 e), ih]
    have hc2 : c ≤ 1000000000000 := hcb.resolve_left e; rw [if_neg e, jm9 hx, ih]; exact jJ6 zg e (qG1 sts d k) (qA5 zg zg)
theorem jz8 {sts : List St} {d : List Nat} (hl : d.length = sts.length) (hd : ∀ x ∈ d, x = big ∨ x ≤ 1000000000000) (hf : ∀ x ∈ sts, vy x.fin = true) : g9 sts (toP d) = q40 (wX sts d d.length) := qZ6 hl hd hf _ (le_refl _)
/- What a set reaches. -/
def enB (x : Nat) : Option Int := if x = big then none else some (x : Int)
structure RcI (n : Nat) (L : RcL) (v : Int → Int → Nat → Nat) (ks : Int × Int → Prop) : Prop where
  nd : (L.map (·.1)).Nodup
  el : ∀ k lj, (k, lj) ∈ L → lj ≠ [] ∧ (lj.map (·.1)).Nodup ∧ ∀ t : Int, zK lj t = if 0 ≤ t ∧ t < n then enB (v k.1 k.2 t.toNat) else none
  ke : ∀ k, ks k ↔ ∃ lj, (k, lj) ∈ L
  no : ∀ k, ¬ ks k → ∀ q, v k.1 k.2 q = big
theorem j93 {l : List (Int × Int)} {a v : Int} : vB l a v ≠ [] := by
  unfold vB
  cases h : xQ l a 0 with
  | none => simp
  | some y =>
    have := (List.getElem?_eq_some_iff.1 (ub (i := y.1) (v := y.2) h)).1; intro e; have := congrArg List.length e; simp at this; simp [this] at *
def qG4 (v : Int → Int → Nat → Nat) (c : Nat) (a : Ar) (i o : Int) (q : Nat) : Nat := if a.i = i ∧ a.o = o ∧ a.t = (q : Int) ∧ c + a.w.toNat < v i o q then c + a.w.toNat else v i o q
theorem qj1 {a : Ar} (h : ¬ (i, o) = (a.i, a.o)) : qG4 v c a i o q = v i o q := by grind [qG4]
theorem qZ7 {a : Ar} (hw : 0 ≤ a.w) (ht : 0 ≤ a.t ∧ a.t < n) (hcb : c + a.w.toNat < big) {t : Int} {lj' : List (Int × Int)} (hg : ∀ t : Int, zK lj t = if 0 ≤ t ∧ t < n then enB (v a.i a.o t.toNat) else none)
    (h : (lj' = vB lj a.t ((c : Int) + a.w) ∧ (zK lj a.t = none ∨ ∃ w, zK lj a.t = some w ∧ (c : Int) + a.w < w)) ∨ (lj' = lj ∧ ∃ w, zK lj a.t = some w ∧ ¬ (c : Int) + a.w < w)) : zK lj' t = if 0 ≤ t ∧ t < n then enB (qG4 v c a a.i a.o t.toNat) else none := by
  have hga := hg a.t; rw [if_pos ht] at hga; unfold enB at hga hg ⊢; unfold qG4
  by_cases e : t = a.t
  · grind [Int.toNat_of_nonneg, big, gU, Option.some.injEq]
  grind [zK, gU]
theorem q11 (hn : (L.map (·.1)).Nodup) (hj : L[j]? = some (k, lj)) {x : (Int × Int) × List (Int × Int)} : x ∈ L.set j (k, l') ↔ x = (k, l') ∨ (x ∈ L ∧ x.1 ≠ k) := by
  have vJ := (List.getElem?_eq_some_iff.1 hj).1
  have ka5 : ∀ (i : Nat) (y : (Int × Int) × List (Int × Int)), L[i]? = some y → y.1 = k → i = j := by
    intro i y hi hy; have h1 : (L.map (·.1))[i]? = some k := by rw [List.getElem?_map, hi]; simp [hy]
    have h2 : (L.map (·.1))[j]? = some k := by rw [List.getElem?_map, hj]; rfl
    obtain ⟨hi1, hi2⟩ := List.getElem?_eq_some_iff.1 h1; obtain ⟨hj1, hj2⟩ := List.getElem?_eq_some_iff.1 h2; exact (List.getElem_inj hn).1 (hi2.trans hj2.symm)
  constructor
  · grind [List.getElem?_of_mem, Option.some.inj, mem_of_getElem?]
  rintro (rfl | ⟨h1, h2⟩)
  · exact mem_of_getElem? (by rw [List.getElem?_set, if_pos rfl, if_pos vJ])
  obtain ⟨i, hi⟩ := List.getElem?_of_mem h1; refine mem_of_getElem? (i := i) ?_; rw [List.getElem?_set, if_neg]
  · exact hi
  grind
theorem jz9 (hj : L[j]? = some (k, lj)) : (L.set j (k, l')).map (·.1) = L.map (·.1) := by
  refine ext_getElem? fun i => ?_; rw [List.getElem?_map, List.getElem?_map, List.getElem?_set]
  split
  · grind
  rfl
theorem RcI.arc {ks : Int × Int → Prop} (h : RcI n L v ks) {a : Ar} (hw : 0 ≤ a.w) (ht : 0 ≤ a.t ∧ a.t < n) (hcb : c + a.w.toNat < big) : RcI n (rcA L c a) (qG4 v c a) (fun k => ks k ∨ k = (a.i, a.o)) := by
  have vO : ∀ k, ¬ (ks k ∨ k = (a.i, a.o)) → ∀ q, qG4 v c a k.1 k.2 q = big := by
    intro k hk q
    rw [qj1 (fun e => hk (.inr (by rw [← e]))), h.no k (fun hh => hk (.inl hh))]
  cases hf : xV L (a.i, a.o) 0 with
  | none =>
    have hnk : ¬ ks (a.i, a.o) := fun hk => by
      obtain ⟨lj, hm⟩ := (h.ke _).1 hk; exact bu.1 hf _ hm rfl
    have hL : rcA L c a = L ++ [((a.i, a.o), vB [] a.t ((c : Int) + a.w))] := by
      rw [j84 hf, List.set_append_right _ _ (le_refl _), Nat.sub_self]; rfl
    rw [hL]; refine ⟨?_, ?_, ?_, vO⟩
    · rw [map_append, List.nodup_append]
      refine ⟨h.nd, by simp, fun x hx y hy => ?_⟩; simp only [map_cons, map_nil, mem_singleton] at hy; subst hy; obtain ⟨z, hz, rfl⟩ := List.mem_map.1 hx; exact bu.1 hf z hz
    · intro k lj hm
      rcases List.mem_append.1 hm with hm | hm
      · obtain ⟨h1, h2, h3⟩ := h.el k lj hm
        refine ⟨h1, h2, fun t => ?_⟩; rw [qj1 (bu.1 hf _ hm)]; exact h3 t
      simp only [mem_singleton, Prod.mk.injEq] at hm; obtain ⟨rfl, rfl⟩ := hm; refine ⟨j93, qn5 _ _ zx, fun t => ?_⟩; refine qZ7 hw ht hcb (lj := []) (fun t => ?_) (.inl ⟨rfl, .inl rfl⟩); have := h.no _ hnk t.toNat; simp only at this; rw [this]; simp [enB, zK, xQ]
    intro k; rw [h.ke k]
    constructor
    · grind
    grind
  | some jl =>
    obtain ⟨j, lj⟩ := jl; have hj := uf hf; have hm0 := mem_of_getElem? hj; obtain ⟨g1, g2, g3⟩ := h.el _ _ hm0; simp only at g3
    by_cases hp : zK lj a.t = none ∨ ∃ w, zK lj a.t = some w ∧ (c : Int) + a.w < w
    · rw [qG2 hf hp]
      refine ⟨by rw [jz9 hj]; exact h.nd, ?_, ?_, vO⟩
      · intro k lk hm
        rcases (q11 h.nd hj).1 hm with e | ⟨hm, zT⟩
        · simp only [Prod.mk.injEq] at e
          obtain ⟨rfl, rfl⟩ := e
          exact ⟨j93, qn5 _ _ g2, fun t => qZ7 hw ht hcb g3 (.inl ⟨rfl, hp⟩)⟩
        obtain ⟨h1, h2, h3⟩ := h.el k lk hm; refine ⟨h1, h2, fun t => ?_⟩; rw [qj1 zT]; exact h3 t
      intro k; rw [h.ke k]
      constructor
      · rintro (⟨lk, hm⟩ | rfl)
        · by_cases e : k = (a.i, a.o)
          · subst e
            exact ⟨_, (q11 h.nd hj).2 (.inl rfl)⟩
          exact ⟨lk, (q11 h.nd hj).2 (.inr ⟨hm, e⟩)⟩
        exact ⟨_, (q11 h.nd hj).2 (.inl rfl)⟩
      grind
    obtain ⟨w, hw1, hw2⟩ : ∃ w, zK lj a.t = some w ∧ ¬ (c : Int) + a.w < w := by
      cases hg : zK lj a.t with
      | none => exact absurd (.inl hg) hp
      | some w => exact ⟨w, rfl, fun zk => hp (.inr ⟨w, hg, zk⟩)⟩
    rw [j85 hf hw1 hw2]; refine ⟨h.nd, ?_, ?_, vO⟩
    · intro k lk hm
      obtain ⟨h1, h2, h3⟩ := h.el k lk hm; refine ⟨h1, h2, fun t => ?_⟩
      by_cases e : k = (a.i, a.o)
      · subst e
        exact qZ7 hw ht hcb h3 (.inr ⟨rfl, by
          have h4 := h3 a.t; have h5 := g3 a.t; simp only at h4 h5; rw [h5.symm.trans hw1] at h4
          exact ⟨w, h4, hw2⟩⟩)
      rw [qj1 e]; exact h3 t
    intro k; rw [h.ke k]
    constructor
    · grind
    exact fun hk => .inl hk
theorem RcI.arcs {n c : Nat} : ∀ (A : List Ar) {L : RcL} {v : Int → Int → Nat → Nat} {ks : Int × Int → Prop}, RcI n L v ks → (∀ a ∈ A, 0 ≤ a.w ∧ (0 ≤ a.t ∧ a.t < n) ∧ c + a.w.toNat < big) → RcI n (A.foldl (fun L a => rcA L c a) L) (fun i o q => bhA i o c q (v i o q) A) (fun k => ks k ∨ ∃ a ∈ A, k = (a.i, a.o))
  | [], L, v, ks, h, _ => by simpa [bhA] using h
  | a :: A, L, v, ks, h, hA => by
    obtain ⟨h1, h2, h3⟩ := hA a mem_cons_self
    have := RcI.arcs A (h.arc h1 h2 h3) fun x hx => hA x (mem_cons_of_mem _ hx)
    have e : (fun k : Int × Int => (ks k ∨ k = (a.i, a.o)) ∨ ∃ b ∈ A, k = (b.i, b.o)) = fun k => ks k ∨ ∃ b ∈ a :: A, k = (b.i, b.o) := by grind
    rw [e] at this; exact this
theorem RcI.sts {sts : List St} {d : List Nat} (hl : d.length = sts.length) (hd : ∀ x ∈ d, x = big ∨ x ≤ 1000000000000) (ha : ∀ x ∈ sts, ∀ a ∈ x.arcs, (0 ≤ a.w ∧ a.w ≤ 1000000000) ∧ 0 ≤ a.t ∧ a.t < sts.length) : ∀ k, k ≤ d.length → RcI d.length ((toK d k).foldl (rcS sts) []) (fun i o q => bhS sts d i o q k) (fun k' => ∃ a ∈ prA sts d k, k' = (a.i, a.o))
  | 0, _ => by
    refine ⟨by simp [toK], ?_, ?_, ?_⟩
    · intro k lj h; simp [toK] at h
    · intro k; simp [toK, prA]
    intro k _ q; rfl
  | k + 1, hk => by
    have ih := RcI.sts hl hd ha k zg; have hkd : k < d.length := by omega
    have hx : sts[k]? = some (sts[k]'zg) := List.getElem?_eq_getElem zg; have hc : d[k]? = some d[k] := List.getElem?_eq_getElem hkd; have hcb := hd _ (List.getElem_mem hkd)
    have hxa := ha _ (List.getElem_mem (show k < sts.length by omega))
    generalize sts[k]'zg = x at hx hxa; generalize d[k] = c at hc hcb; have hgd : d.getD k big = c := by rw [getD_eq_getElem?_getD, hc]; rfl
    by_cases e : c = big
    · grind [bhS, qX6, toK]
    have hc2 : c ≤ 1000000000000 := hcb.resolve_left e
    have e1 : (fun i o q => bhS sts d i o q (k + 1)) = fun i o q => bhA i o c q (bhS sts d i o q k) x.arcs := by grind [bhS, wo]
    have e2 : (fun k' : Int × Int => ∃ a ∈ prA sts d (k + 1), k' = (a.i, a.o)) = fun k' => (∃ a ∈ prA sts d k, k' = (a.i, a.o)) ∨ ∃ a ∈ x.arcs, k' = (a.i, a.o) := by grind [qX7, List.mem_append_left, List.mem_append_right]
    rw [e1, e2, toK, hgd, if_neg e, List.foldl_append]; simp only [List.foldl_cons, List.foldl_nil, rcS, wo hx]; refine RcI.arcs x.arcs ih fun a ham => ?_; obtain ⟨⟨h1, h2⟩, h3, h4⟩ := hxa a ham; exact ⟨h1, ⟨h3, by omega⟩, qA5 zg zg⟩
/- The pairs in order. -/
def ltQ (x y : Int × Int) : Prop := x.1 < y.1 ∨ x.1 = y.1 ∧ x.2 < y.2
def pq (a : Ar) : Int × Int := (a.i, a.o)
theorem qq3 {α : Type} {r : α → α → Prop} (hr : ∀ a b, r a b → r b a → False) : ∀ {l l' : List α}, l.Pairwise r → l'.Pairwise r → (∀ x, x ∈ l ↔ x ∈ l') → l = l'
  | [], [], _, _, _ => rfl
  | [], y :: l', _, _, h => by have := (h y).2 mem_cons_self; cases this
  | x :: l, [], _, _, h => by have := (h x).1 mem_cons_self; cases this
  | x :: l, y :: l', h1, h2, h => by
    have a1 := List.pairwise_cons.1 h1; have a2 := List.pairwise_cons.1 h2; have hxy : x = y := by grind [mem_cons_self]
    subst hxy; rw [qq3 hr a1.2 a2.2 fun z => ?_]
    constructor
    · grind
    grind
theorem j94 (a b : Int × Int) (h1 : ltQ a b) (h2 : ltQ b a) : False := by
  unfold ltQ at h1 h2; omega
theorem qZ8 {l : List Ar} (hs : Sd ahd l) : ∀ k, k ≤ l.length → ((prL l k).map pq).Pairwise ltQ ∧ (∀ a ∈ l.take k, ∃ b ∈ prL l k, pq b = pq a) ∧ ∀ b ∈ prL l k, b ∈ l.take k
  | 0, _ => by simp [prL]
  | k + 1, hk => by
    obtain ⟨h1, h2, h3⟩ := qZ8 hs k zg; have hkl : k < l.length := by omega
    have ha : l[k]? = some l[k] := List.getElem?_eq_getElem hkl; have jV2 : ∀ b ∈ l.take k, ahd l[k] b = false := by grind [List.getElem?_of_mem, List.getElem?_eq_some_iff, List.pairwise_iff_getElem]
    generalize hA : l[k] = a at ha jV2; have htk : l.take (k + 1) = l.take k ++ [a] := x5 ha
    have hle : ∀ b ∈ l.take k, ¬ ltQ (pq a) (pq b) := by
      intro b hb h; have := jV2 b hb; rw [Bool.eq_false_iff, ne_eq, u7] at this; unfold ltQ pq at h; simp only at h; omega
    by_cases hk0 : k = 0
    · subst hk0
      rw [qK9 ha, htk]; simp
    have hb : l[k - 1]? = some (l[k - 1]'zg) := List.getElem?_eq_getElem zg; generalize l[k - 1]'zg = b at hb; have hbm : b ∈ l.take k := mem_of_getElem? (i := k - 1) (by rw [List.getElem?_take, if_pos zg, hb])
    have hbl : ∀ c ∈ l.take k, ¬ ltQ (pq b) (pq c) := by
      intro c hc h; obtain ⟨i, hi⟩ := List.getElem?_of_mem hc; rw [List.getElem?_take] at hi
      split at hi
      · rename_i hik
        by_cases e : i = k - 1
        · grind [j94]
        obtain ⟨vr, rfl⟩ := List.getElem?_eq_some_iff.1 hi; obtain ⟨hbl, rfl⟩ := List.getElem?_eq_some_iff.1 hb; have := List.pairwise_iff_getElem.1 hs i (k - 1) vr hbl zg; rw [Bool.eq_false_iff, ne_eq, u7] at this; unfold ltQ pq at h; simp only at h; omega
      cases hi
    by_cases zT : a.i ≠ b.i ∨ a.o ≠ b.o
    · grind [j73, mem_singleton, ltQ, pq, List.mem_append_left, List.mem_append_right, List.mem_singleton_self]
    grind [j74, List.mem_append_left, mem_singleton, pq]
theorem qv5 (sts : List St) (d : List Nat) : ((prS sts d).map pq).Pairwise ltQ ∧ ∀ k, k ∈ (prS sts d).map pq ↔ ∃ a ∈ prA sts d d.length, k = (a.i, a.o) := by
  obtain ⟨h1, h2, h3⟩ := qZ8 (qd4 (prA sts d d.length)) (prA sts d d.length).length (by rw [gg]; exact le_refl _); rw [take_of_length_le (by rw [gg]; exact le_refl _)] at h2 h3; refine ⟨h1, fun k => ?_⟩; rw [mem_map]
  constructor
  · rintro ⟨b, hb, rfl⟩
    exact ⟨b, (gM _).mem_iff.1 (h3 b hb), rfl⟩
  rintro ⟨a, ha, rfl⟩; obtain ⟨b, hb, e⟩ := h2 a ((gM _).mem_iff.2 ha); exact ⟨b, hb, e⟩
/- What settle answers. -/
def mnI (l : List Int) : Int := l.foldl (fun b w => if b < 0 ∨ w < b then w else b) (-1)
theorem qZ9 (l : List Int) (w : Int) : mnI (l ++ [w]) = if mnI l < 0 ∨ w < mnI l then w else mnI l := by
  unfold mnI; rw [List.foldl_append]; rfl
theorem j00 : ∀ (n : Nat) (l : List Int), l.length = n → (∀ w ∈ l, 0 ≤ w) → (l = [] → mnI l = -1) ∧ (l ≠ [] → mnI l ∈ l ∧ ∀ w ∈ l, mnI l ≤ w)
  | 0, l, h, _ => by grind [List.eq_nil_of_length_eq_zero, mnI]
  | n + 1, l, h, h0 => by
    obtain ⟨l', a, rfl⟩ : ∃ l' a, l = l' ++ [a] := ⟨l.dropLast, l.getLast (by rintro rfl; simp at h), (List.dropLast_concat_getLast _).symm⟩
    obtain ⟨ih1, ih2⟩ := j00 n l' (by simpa using h) fun w hw => h0 w (List.mem_append_left _ hw)
    have ha := h0 a (List.mem_append_right _ (List.mem_singleton_self _)); refine ⟨by simp, fun _ => ?_⟩; rw [qZ9]
    by_cases e : l' = []
    · subst e
      simp [mnI]
    obtain ⟨h1, h2⟩ := ih2 e; have h3 := h0 _ (List.mem_append_left _ h1)
    split
    · grind
    grind
theorem qj2 : ∀ (n : Nat) (l : List Nat), l.length = n → (mnL l = big ∨ mnL l ∈ l) ∧ mnL l ≤ big ∧ ∀ x ∈ l, mnL l ≤ x
  | 0, l, h => by
    obtain rfl := List.eq_nil_of_length_eq_zero h; exact ⟨.inl rfl, le_refl _, by simp⟩
  | n + 1, l, h => by
    obtain ⟨l', a, rfl⟩ : ∃ l' a, l = l' ++ [a] := ⟨l.dropLast, l.getLast (by rintro rfl; simp at h), (List.dropLast_concat_getLast _).symm⟩; obtain ⟨ih1, ih0, ih2⟩ := qj2 n l' (by simpa using h)
    have e : mnL (l' ++ [a]) = if a < mnL l' then a else mnL l' := by
      unfold mnL; rw [List.foldl_append]; rfl
    rw [e]; generalize mnL l' = m at ih1 ih2 ih0; generalize big = bg at ih1 ih0
    split
    · grind
    grind
structure LjI (n : Nat) (lj : List (Int × Int)) (x : List Nat) : Prop where
  ne : lj ≠ []
  nd : (lj.map (·.1)).Nodup
  len : x.length = n
  bd : ∀ y ∈ x, y = big ∨ y ≤ 10000000000000
  at' : ∀ t : Int, zK lj t = if 0 ≤ t ∧ t < n then enB (x.getD t.toNat big) else none
theorem LjI.mem {x : List Nat} (h : LjI n lj x) : (t, w) ∈ lj ↔ ∃ q v : Nat, t = (q : Int) ∧ w = (v : Int) ∧ q < n ∧ x[q]? = some v ∧ v ≠ big := by
  rw [← qi0 h.nd, h.at']; unfold enB
  constructor
  · grind
  grind
theorem LjI.least {x : List Nat} (h : LjI n lj x) {A : List Int} (hA : A.Perm (lj.map (·.2))) : mnI A = (mnL x : Int) ∧ mnL x ≠ big := by
  have hnn : ∀ w ∈ A, 0 ≤ w := by
    intro w hw; obtain ⟨⟨t, u⟩, hm, rfl⟩ := List.mem_map.1 (hA.mem_iff.1 hw); obtain ⟨q, v, _, rfl, _⟩ := h.mem.1 hm; simp only; omega
  have zT : A ≠ [] := by
    rintro rfl; have := hA.length_eq; have h2 := List.length_pos_iff.2 h.ne; rw [length_map] at this; simp at this; omega
  obtain ⟨h1, h2⟩ := (j00 _ A rfl hnn).2 zT; obtain ⟨⟨t, u⟩, hm, hu⟩ := List.mem_map.1 (hA.mem_iff.1 h1); obtain ⟨q, v, rfl, rfl, hq, hx, hv⟩ := h.mem.1 hm; obtain ⟨m1, m2, m3⟩ := qj2 _ x rfl; simp only at hu; have h3 := m3 v (mem_of_getElem? hx); have hv2 : v ≤ 10000000000000 := (h.bd v (mem_of_getElem? hx)).resolve_left hv; have zk : mnL x ≠ big := by grind [qA5, big]
  refine ⟨?_, zk⟩; have h5 := m1.resolve_left zk; obtain ⟨q', hq'⟩ := List.getElem?_of_mem h5
  have hql : q' < n := by
    have := (List.getElem?_eq_some_iff.1 hq').1; rw [h.len] at this; exact this
  have h6 : ((q' : Int), ((mnL x : Nat) : Int)) ∈ lj := h.mem.2 ⟨q', mnL x, rfl, rfl, hql, hq', zk⟩; have h7 := h2 _ (hA.mem_iff.2 (List.mem_map.2 ⟨_, h6, rfl⟩)); simp only at h7; generalize mnL x = m at h3 h7 ⊢; omega
theorem j01 {x : List Nat} {w : Nat} (h : q < x.length) : (sbL x w).getD q big = sbV w (x.getD q big) := by grind [sbL, List.getElem?_eq_getElem]
theorem LjI.states {x : List Nat} (h : LjI n lj x) {A : List Nat} (hA : A.Perm (lj.map fun y => y.1.toNat)) : leN A = (toP (sbL x (mnL x))).map (·.1) := by
  have hm0 : ∀ q, q ∈ A ↔ q < n ∧ x.getD q big ≠ big := by
    intro q; rw [hA.mem_iff, mem_map]
    constructor
    · rintro ⟨⟨t, w⟩, hm, rfl⟩
      obtain ⟨q, v, rfl, rfl, hq, hx, hv⟩ := h.mem.1 hm; simp only [Int.toNat_natCast]; refine ⟨hq, ?_⟩; rw [getD_eq_getElem?_getD, hx]; exact hv
    rintro ⟨hq, hx⟩; have hql : q < x.length := by rw [h.len]; exact hq
    rw [getD_eq_getElem?_getD, List.getElem?_eq_getElem hql, getD_some] at hx; exact ⟨((q : Int), (x[q] : Int)), h.mem.2 ⟨q, x[q], rfl, rfl, hq, List.getElem?_eq_getElem hql, hx⟩, by simp⟩
  have wC : A.Nodup := by
    refine hA.nodup_iff.2 ?_
    have h1 : (lj.map fun y => y.1.toNat) = (lj.map (·.1)).map Int.toNat := by rw [List.map_map]; rfl
    rw [h1]
    have h2 : ∀ t ∈ lj.map (·.1), 0 ≤ t := by
      intro t ht; obtain ⟨⟨t, w⟩, hm, rfl⟩ := List.mem_map.1 ht; obtain ⟨q, v, rfl, rfl, _⟩ := h.mem.1 hm; simp only; omega
    refine List.pairwise_map.2 ((List.Pairwise.imp_of_mem ?_ h.nd)); intro a b ha hb hab e; have := h2 a ha; have := h2 b hb; omega
  refine qq3 (r := fun x y : Nat => x < y) (fun a b h1 h2 => by omega) (jK4 wC) (List.pairwise_map.2 (qA4 _ _)) fun q => ?_; rw [(qr5 A).mem_iff, hm0, mem_map]; have hlm := h.least (List.Perm.refl _); have hb : ∀ y : Nat, y ≠ big → (y = big ∨ y ≤ 10000000000000) → sbV (mnL x) y ≠ big := by grind [sbV, qA5, big]
  constructor
  · rintro ⟨hq, hx⟩
    have hql : q < x.length := by rw [h.len]; exact hq
    refine ⟨(q, sbV (mnL x) (x.getD q big)), uu.2 ⟨by simp [sbL]; exact hql, j01 hql, ?_⟩, rfl⟩; refine hb _ hx (h.bd _ ?_); rw [getD_eq_getElem?_getD, List.getElem?_eq_getElem hql, getD_some]; exact List.getElem_mem hql
  rintro ⟨⟨q', v⟩, hm, rfl⟩; obtain ⟨h1, h2, h3⟩ := uu.1 hm; simp only [sbL, length_map] at h1 h2 h3; refine ⟨by rw [← h.len]; exact h1, fun e => ?_⟩; have := j01 (w := mnL x) h1; rw [e] at this; unfold sbL at this; rw [h2] at this; exact h3 (by rw [this]; unfold sbV; rw [if_pos rfl])
theorem LjI.parts {x : List Nat} (h : LjI n lj x) : ((toP (sbL x (mnL x))).map (·.1)).map (fun q : Nat => (q, ((zK lj (q : Int)).getD 0 - (mnL x : Int)).toNat)) = toP (sbL x (mnL x)) ∧ ∀ q : Nat, q ∈ (toP (sbL x (mnL x))).map (·.1) → 0 ≤ (zK lj (q : Int)).getD 0 - (mnL x : Int) := by
  have key : ∀ y ∈ toP (sbL x (mnL x)), 0 ≤ (zK lj (y.1 : Int)).getD 0 - (mnL x : Int) ∧ ((zK lj (y.1 : Int)).getD 0 - (mnL x : Int)).toNat = y.2 := by
    rintro ⟨q, v⟩ hm; obtain ⟨h1, h2, h3⟩ := uu.1 hm; simp only [sbL, length_map] at h1 h2; have h4 := j01 (w := mnL x) h1; unfold sbL at h4; rw [h2] at h4
    have zT : x.getD q big ≠ big := fun e => h3 (by rw [h4, e]; unfold sbV; rw [if_pos rfl])
    have qa7 : x.getD q big ∈ x := by grind
    have h5 := (qj2 _ x rfl).2.2 _ qa7; unfold sbV at h4; rw [if_neg zT] at h4; have h6 := h.at' (q : Int); rw [if_pos ⟨by omega, by rw [← h.len]; omega⟩, Int.toNat_natCast] at h6; unfold enB at h6; rw [if_neg zT] at h6; simp only [h6, getD_some]; generalize x.getD q big = y at h4 h5; omega
  refine ⟨?_, fun q hq => ?_⟩
  · rw [List.map_map]
    conv => rhs; rw [← List.map_id (toP (sbL x (mnL x)))]
    refine List.map_congr_left fun y hy => ?_; have := (key y hy).2; simp only [Function.comp, this, id]
  grind
theorem jV3 {sts : List St} {d : List Nat} (hl : d.length = sts.length) (hd : ∀ x ∈ d, x = big ∨ x ≤ 1000000000000) (ha : ∀ x ∈ sts, ∀ a ∈ x.arcs, (0 ≤ a.w ∧ a.w ≤ 1000000000) ∧ 0 ≤ a.t ∧ a.t < sts.length) (hm : (pq p, lj) ∈ rcP sts (toP d)) : LjI d.length lj (nxL sts d p) := by
  have h := RcI.sts hl hd ha d.length (le_refl _); obtain ⟨h1, h2, h3⟩ := h.el _ _ hm; simp only [pq] at h3; refine ⟨h1, h2, by simp [nxL, bhD, bl], ?_, fun t => ?_⟩
  · intro y hy
    have h5 := (qo0 (i := p.i) (o := p.o) (n := d.length) (B := 1000000000000) ⟨rfl, hd⟩ fun x hx a hax => (ha x hx a hax).1.2).2 y hy
    rcases h5 with h5 | h5
    · exact .inl h5
    exact .inr zg
  grind [nxL, big, bhS, bhD, w8]
theorem j02 {sts : List St} {d : List Nat} (hl : d.length = sts.length) (hd : ∀ x ∈ d, x = big ∨ x ≤ 1000000000000) (ha : ∀ x ∈ sts, ∀ a ∈ x.arcs, (0 ≤ a.w ∧ a.w ≤ 1000000000) ∧ 0 ≤ a.t ∧ a.t < sts.length) : ((rcP sts (toP d)).map (·.1)).Nodup ∧ ∀ k, k ∈ (prS sts d).map pq ↔ k ∈ (rcP sts (toP d)).map (·.1) := by
  have h := RcI.sts hl hd ha d.length (le_refl _); refine ⟨h.nd, fun k => ?_⟩; rw [(qv5 sts d).2 k]; refine (h.ke k).trans ?_; rw [mem_map]
  constructor
  · rintro ⟨lj, hm⟩; exact ⟨_, hm, rfl⟩
  rintro ⟨⟨k', lj⟩, hm, rfl⟩; exact ⟨lj, hm⟩
theorem jn0 (h : k ∈ L.map (·.1)) : ∃ j lj, xV L k 0 = some (j, lj) ∧ (k, lj) ∈ L := by
  cases hf : xV L k 0 with
  | none =>
    obtain ⟨x, hx, e⟩ := List.mem_map.1 h; exact absurd e (bu.1 hf x hx)
  | some jl => exact ⟨jl.1, jl.2, rfl, mem_of_getElem? (uf hf)⟩
def gR (L : List (List Nat)) : List (ByteArray × Int) := L.zipIdx.map fun x => (kyS (toP x.1), (x.2 : Int))
theorem jn1 (L : List (List Nat)) (y : List Nat) : gR (L ++ [y]) = gR L ++ [(kyS (toP y), (L.length : Int))] := by grind [gR]
theorem jA0 (y : List Nat) : gR [y] = [(kyS (toP y), 0)] := by simp [gR]
theorem jJ7 {L : List (List Nat)} (h : L ≠ []) : gR L ≠ [] := by
  unfold gR
  simpa using h
theorem j03 {n : Nat} {y : List Nat} (hy : y.length = n) : ∀ (L : List (List Nat)) (j : Nat), (∀ x ∈ L, x.length = n) → zK ((L.zipIdx j).map fun x => (kyS (toP x.1), (x.2 : Int))) (kyS (toP y)) = if lIx L y = L.length then none else some ((lIx L y + j : Nat) : Int)
  | [], j, _ => by simp [zK, xQ, lIx]
  | x :: L, j, h => by
    have ih := j03 hy L (j + 1) fun z hz => h z (mem_cons_of_mem _ hz)
    rw [zipIdx_cons, map_cons, yF, ih]; have hx := h x mem_cons_self
    by_cases e : x = y
    · grind [lIx]
    grind [kyS, toP, jJ5, jG9, lIx, length_cons]
theorem jA1 (hy : y.length = n) {L : List (List Nat)} (h : ∀ x ∈ L, x.length = n) : zK (gR L) (kyS (toP y)) = if lIx L y = L.length then none else some (lIx L y : Int) := j03 hy L 0 h
theorem jJ8 (h : s < n) : toP (yD n s) = [(s, 0)] := by
  have zI : (yD n s).length = n := by simp [yD]
  have wP : ∀ q, (yD n s).getD q big = if q = s then 0 else big := by grind [yD]
  have hb : ¬ (0 : Nat) = big := by decide
  refine qq3 (r := fun x y : Nat × Nat => x.1 < y.1) (fun a b h1 h2 => by omega) (qA4 _ _) (List.pairwise_singleton _ _) fun x => ?_; unfold toP; rw [uu, zI, wP, mem_singleton]
  constructor
  · grind
  rintro rfl; exact ⟨h, if_pos rfl, hb⟩
theorem jV4 {d : List Nat} (xZ : n ≤ 60) (hd : d.length = n) (hb : ∀ x ∈ d, x = big ∨ x ≤ 1000000000000) : (toP d).length ≤ 60 ∧ ∀ x ∈ toP d, je9 x ∧ x.1 < n := by
  refine ⟨?_, fun x hx => ?_⟩
  · have := j92 d d.length
    unfold toP; omega
  obtain ⟨h1, h2, h3⟩ := uu.1 hx; have hm : x.2 ∈ d := by grind
  exact ⟨⟨by omega, (hb _ hm).resolve_left h3⟩, by omega⟩
def qb4 (k : Int × Int) : uC := ⟨min k.1.toNat 1000000000, min k.2.toNat 1000000000, Nat.min_le_right _ _, Nat.min_le_right _ _⟩
theorem jJ9 (h : (0 ≤ k.1 ∧ k.1 ≤ 1000000000) ∧ 0 ≤ k.2 ∧ k.2 ≤ 1000000000) : eL (qb4 k) = k := by grind [eL, qb4]
theorem jV5 {x y : uC} (h : eL x = eL y) : x = y := by
  obtain ⟨xi, xo, _, _⟩ := x; obtain ⟨yi, yo, _, _⟩ := y; unfold eL at h; simp only [Prod.mk.injEq] at h; obtain rfl : xi = yi := by omega
  obtain rfl : xo = yo := by omega
  rfl
theorem qj3 (l : List uC) : (leL l).Perm l := List.mergeSort_perm _ _
theorem jV6 {l : List uC} (h : l.Nodup) : (leL l).Pairwise fun x y => ltQ (eL x) (eL y) := by
  have h1 := List.pairwise_mergeSort (le := fun x y : uC => !ltOf cfL y x) (by
    intro a b c; rw [gu, gu, gu]; simp
    omega) (by
    intro a b; rw [gu, gu]; simp
    omega) l
  have h2 : (leL l).Pairwise fun x y => x ≠ y := (qj3 l).nodup_iff.2 h
  refine (h1.and h2).imp ?_; rintro x y ⟨h3, h4⟩; rw [gu] at h3; simp at h3; unfold ltQ eL; simp only
  have h5 : ¬ (x.i = y.i ∧ x.o = y.o) := fun ⟨e1, e2⟩ => h4 (jV5 (by unfold eL; rw [e1, e2]))
  omega
theorem qG5 {sts : List St} {d : List Nat} {a : Ar} : ∀ {k : Nat}, a ∈ prA sts d k → ∃ x ∈ sts, a ∈ x.arcs
  | 0, h => by simp [prA] at h
  | k + 1, h => by
    rw [prA] at h
    split at h
    · exact qG5 h
    rcases List.mem_append.1 h with h | h
    · exact qG5 h
    grind [stA, mem_of_getElem?]
theorem jA2 {sts : List St} {d : List Nat} (hl : d.length = sts.length) (hd : ∀ x ∈ d, x = big ∨ x ≤ 1000000000000) (ha : ∀ x ∈ sts, ∀ a ∈ x.arcs, xl (sts.length : Int) a = true) : ∃ ks : List uC, (rcP sts (toP d)).map (·.1) = ks.map eL ∧ (∀ A : List uC, A.Perm ks → (leL A).map eL = (prS sts d).map pq) ∧ ks.length = (prS sts d).length := by
  have ha' : ∀ x ∈ sts, ∀ a ∈ x.arcs, (0 ≤ a.w ∧ a.w ≤ 1000000000) ∧ 0 ≤ a.t ∧ a.t < sts.length := fun x hx a hax => by grind [xl]
  obtain ⟨wC, hke⟩ := j02 hl hd ha'; have hbd : ∀ k ∈ (rcP sts (toP d)).map (·.1), eL (qb4 k) = k := by grind [qv5, qG5, xl, jJ9]
  have hks : ((rcP sts (toP d)).map (·.1)).map (fun k => eL (qb4 k)) = (rcP sts (toP d)).map (·.1) := by grind [List.map_id, rcP, toP, List.map_congr_left]
  have jA3 : (((rcP sts (toP d)).map (·.1)).map qb4).map eL = (rcP sts (toP d)).map (·.1) := by
    rw [List.map_map]; exact hks
  have hnk : (((rcP sts (toP d)).map (·.1)).map qb4).Nodup := by
    have h1 : ((((rcP sts (toP d)).map (·.1)).map qb4).map eL).Nodup := by rw [jA3]; exact wC
    exact (List.pairwise_map.1 h1).imp fun h e => h (congrArg eL e)
  have qG6 : ∀ A : List uC, A.Perm (((rcP sts (toP d)).map (·.1)).map qb4) → (leL A).map eL = (prS sts d).map pq := by
    intro A hA; refine qq3 j94 (List.pairwise_map.2 (jV6 (hA.nodup_iff.2 hnk))) (qv5 sts d).1 fun k => ?_; have h1 : ((leL A).map eL).Perm ((((rcP sts (toP d)).map (·.1)).map qb4).map eL) := ((qj3 A).trans hA).map eL; rw [h1.mem_iff, jA3]; exact (hke k).symm
  refine ⟨((rcP sts (toP d)).map (·.1)).map qb4, jA3.symm, qG6, ?_⟩; have h1 := congrArg List.length (qG6 _ (List.Perm.refl _)); rw [length_map, length_map, (qj3 _).length_eq] at h1; exact h1
theorem jA4 {sts : List St} {d : List Nat} (hl : d.length = sts.length) (hd : ∀ x ∈ d, x = big ∨ x ≤ 1000000000000) (ha : ∀ x ∈ sts, ∀ a ∈ x.arcs, xl (sts.length : Int) a = true) (hp : p ∈ prS sts d) : ∃ j lj, xV (rcP sts (toP d)) (p.i, p.o) 0 = some (j, lj) ∧ LjI d.length lj (nxL sts d p) := by
  have ha' : ∀ x ∈ sts, ∀ a ∈ x.arcs, (0 ≤ a.w ∧ a.w ≤ 1000000000) ∧ 0 ≤ a.t ∧ a.t < sts.length := fun x hx a hax => by grind [xl]
  obtain ⟨wC, hke⟩ := j02 hl hd ha'; obtain ⟨j, lj, h1, h2⟩ := jn0 ((hke (pq p)).1 (List.mem_map_of_mem hp)); exact ⟨j, lj, h1, jV3 hl hd ha' h2⟩
end Go.Proofs.YthiknkcigcglkaaGreatDoor
