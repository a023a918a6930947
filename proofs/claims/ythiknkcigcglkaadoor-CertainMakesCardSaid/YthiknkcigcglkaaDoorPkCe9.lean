/- Part 9 of what the law CertainMakes rests on. -/
import Derived.Shelf.SlSortCmp.NoneTotal
import Derived.Shelf.SlSortCmp.InsertionK
import Derived.Deep.QuietTactic
import Derived.Test.YthiknkcigcglkaaDoorPkCe1
import Derived.Test.YthiknkcigcglkaaDoorPkCe2
import Derived.Test.YthiknkcigcglkaaDoorPkCe3
import Derived.Test.YthiknkcigcglkaaDoorPkCe4
import Derived.Test.YthiknkcigcglkaaDoorPkCe5
import Derived.Test.YthiknkcigcglkaaDoorPkCe6
import Derived.Test.YthiknkcigcglkaaDoorPkCe7
import Derived.Test.YthiknkcigcglkaaDoorPkCe8
namespace Go.Proofs.YthiknkcigcglkaaDoor
open Go.RowKit
set_option linter.unusedSimpArgs false
set_option linter.unusedVariables false
set_option maxRecDepth 100000
set_option maxHeartbeats 8000000
open Go.Shelf Go.RowKit
open Go.Sort (grow)
open Go.Sort (HoldsK grow SWO)
/-- The parts among the first k states. -/
def toK (d : List Nat) : Nat → List (Nat × Nat)
  | 0 => []
  | k + 1 => if d.getD k big = big then toK d k else toK d k ++ [(k, d.getD k big)]
def toP (d : List Nat) : List (Nat × Nat) := toK d d.length
theorem toK_mem {d : List Nat} {x : Nat × Nat} : ∀ {k : Nat}, x ∈ toK d k ↔ x.1 < k ∧ d.getD x.1 big = x.2 ∧ x.2 ≠ big
  | 0 => by simp [toK]
  | k + 1 => by
    have ih := toK_mem (d := d) (x := x) (k := k)
    rw [toK]
    generalize big = bg at ih ⊢
    split
    · rename_i h
      rw [ih]
      constructor
      · rintro ⟨h1, h2, h3⟩
        exact ⟨by omega, h2, h3⟩
      rintro ⟨h1, h2, h3⟩
      refine ⟨?_, h2, h3⟩
      refine Nat.lt_of_le_of_ne zT13 ?_
      intro e
      rw [e, h] at h2
      exact h3 h2.symm
    rename_i h
    rw [List.mem_append, ih, List.mem_singleton]
    constructor
    · rintro (⟨h1, h2, h3⟩ | rfl)
      · exact ⟨by omega, h2, h3⟩
      exact ⟨by simp, rfl, h⟩
    rintro ⟨h1, h2, h3⟩
    by_cases e : x.1 = k
    · right
      rw [e] at h2
      exact Prod.ext e h2.symm
    exact .inl ⟨by omega, h2, h3⟩
theorem toK_lt (d : List Nat) : ∀ k, (toK d k).Pairwise fun x y => x.1 < y.1
  | 0 => List.Pairwise.nil
  | k + 1 => by
    rw [toK]
    split
    · exact toK_lt d k
    rw [List.pairwise_append]
    refine ⟨toK_lt d k, List.pairwise_singleton _ _, fun x hx y hy => ?_⟩
    rw [List.mem_singleton] at hy
    subst hy
    exact (toK_mem.1 hx).1
theorem toK_len (d : List Nat) : ∀ k, (toK d k).length ≤ k
  | 0 => Nat.le_refl _
  | k + 1 => by
    have := toK_len d k
    rw [toK]
    split
    · omega
    rw [List.length_append, List.length_singleton]; omega
theorem toP_inj {d d' : List Nat} (hl : d.length = d'.length) (h : toP d = toP d') : d = d' := by
  have key : ∀ q, q < d.length → d.getD q big = d'.getD q big := by
    intro q hq
    generalize hb : d.getD q big = v
    generalize hb' : d'.getD q big = v'
    by_cases e : v = big
    · by_cases e' : v' = big
      · rw [e, e']
      have h1 : (q, v') ∈ toP d' := toK_mem.2 ⟨by simp only; omega, hb', e'⟩
      rw [← h] at h1
      have h2 := (toK_mem.1 h1).2.1
      simp only at h2
      rw [hb] at h2
      exact h2
    have h1 : (q, v) ∈ toP d := toK_mem.2 ⟨hq, hb, e⟩
    rw [h] at h1
    have h2 := (toK_mem.1 h1).2.1
    simp only at h2
    rw [hb'] at h2
    exact h2.symm
  refine List.ext_getElem hl fun q h1 h2 => ?_
  have := key q h1
  rwa [List.getD_eq_getElem?_getD, List.getD_eq_getElem?_getD, List.getElem?_eq_getElem h1, List.getElem?_eq_getElem h2] at this
/- What a set costs to end. -/
def enFp (x : Nat) : Int := if x = big then -1 else (x : Int)
theorem fin_gen {bg c F : Nat} {f : Int} (hf : 0 ≤ f) (hc : c ≠ bg) (hF : F ≤ bg) (hb : c + f.toNat < bg) :
    (if f ≠ 1000000001 ∧ ((if F = bg then (-1 : Int) else (F : Int)) < 0 ∨ (c : Int) + f < (if F = bg then (-1 : Int) else (F : Int))) then (c : Int) + f else (if F = bg then (-1 : Int) else (F : Int))) =
    (if (if c ≠ bg ∧ f ≠ 1000000001 ∧ c + f.toNat < F then c + f.toNat else F) = bg then (-1 : Int) else (((if c ≠ bg ∧ f ≠ 1000000001 ∧ c + f.toNat < F then c + f.toNat else F) : Nat) : Int)) := by
  by_cases h1 : f = 1000000001
  · simp [h1]
  by_cases h2 : F = bg
  · subst h2
    have e : (if c ≠ F ∧ f ≠ 1000000001 ∧ c + f.toNat < F then c + f.toNat else F) = c + f.toNat := if_pos ⟨hc, h1, hb⟩
    rw [e, if_neg (show ¬ c + f.toNat = F by omega)]
    simp only [if_true]
    rw [if_pos ⟨h1, .inl zT13⟩]
    omega
  simp only [if_neg h2]
  by_cases h3 : c + f.toNat < F
  · have e : (if c ≠ bg ∧ f ≠ 1000000001 ∧ c + f.toNat < F then c + f.toNat else F) = c + f.toNat := if_pos ⟨hc, h1, h3⟩
    rw [e, if_neg (show ¬ c + f.toNat = bg by omega), if_pos ⟨h1, .inr zT13⟩]
    omega
  have e : (if c ≠ bg ∧ f ≠ 1000000001 ∧ c + f.toNat < F then c + f.toNat else F) = F := if_neg fun h => h3 h.2.2
  rw [e, if_neg h2, if_neg]
  rintro ⟨_, h | h⟩ <;> omega
theorem finP_snoc {sts : List St} {l : List (Nat × Nat)} {p : Nat × Nat} {x : St} (hx : sts[p.1]? = some x) : finP sts (l ++ [p]) = if x.fin ≠ 1000000001 ∧ (finP sts l < 0 ∨ (p.2 : Int) + x.fin < finP sts l) then (p.2 : Int) + x.fin else finP sts l := by
  unfold finP
  rw [List.foldl_append]
  simp only [List.foldl_cons, List.foldl_nil, hx, Option.getD_some]
theorem big_gt {x y : Nat} (h : x ≤ 10000000000000) (hy : y ≤ 10000000000000) : x + y < big := by
  have : (20000000000000 : Nat) < big := by decide
  exact Nat.lt_of_le_of_lt zT13 this
theorem finP_toK {sts : List St} {d : List Nat} (hl : d.length = sts.length) (hd : ∀ x ∈ d, x = big ∨ x ≤ 1000000000000) (hf : ∀ x ∈ sts, finOk x.fin = true) : ∀ k, k ≤ d.length → finP sts (toK d k) = enFp (finD sts d k)
  | 0, _ => rfl
  | k + 1, hk => by
    have ih := finP_toK hl hd hf k zT13
    have hkd : k < d.length := by omega
    have hx : sts[k]? = some (sts[k]'zT13) := List.getElem?_eq_getElem zT13
    have hc : d[k]? = some d[k] := List.getElem?_eq_getElem hkd
    have hcb := hd _ (List.getElem_mem hkd)
    have hfo := hf _ (List.getElem_mem (show k < sts.length by omega))
    generalize sts[k]'zT13 = x at hx hfo
    generalize d[k] = c at hc hcb
    rw [toK, finD_at hc hx, List.getD_eq_getElem?_getD, hc, Option.getD_some]
    simp only [finOk, decide_eq_true_eq] at hfo
    by_cases e : c = big
    · rw [if_pos e, if_neg (fun h => h.1 e), ih]
    have hc2 : c ≤ 1000000000000 := hcb.resolve_left e
    rw [if_neg e, finP_snoc hx, ih]
    exact fin_gen zT13 e (finD_le sts d k) (big_gt zT13 zT13)
theorem finP_toP {sts : List St} {d : List Nat} (hl : d.length = sts.length) (hd : ∀ x ∈ d, x = big ∨ x ≤ 1000000000000) (hf : ∀ x ∈ sts, finOk x.fin = true) : finP sts (toP d) = enFp (finD sts d d.length) := finP_toK hl hd hf _ (Nat.le_refl _)
/- What a set reaches. -/
def enB (x : Nat) : Option Int := if x = big then none else some (x : Int)
structure RcI (n : Nat) (L : RcL) (v : Int → Int → Nat → Nat) (ks : Int × Int → Prop) : Prop where
  nd : (L.map (·.1)).Nodup
  el : ∀ k lj, (k, lj) ∈ L → lj ≠ [] ∧ (lj.map (·.1)).Nodup ∧ ∀ t : Int, mget lj t = if 0 ≤ t ∧ t < n then enB (v k.1 k.2 t.toNat) else none
  ke : ∀ k, ks k ↔ ∃ lj, (k, lj) ∈ L
  no : ∀ k, ¬ ks k → ∀ q, v k.1 k.2 q = big
theorem mput_ne {l : List (Int × Int)} {a v : Int} : mput l a v ≠ [] := by
  unfold mput
  cases h : mfind l a 0 with
  | none => simp
  | some y =>
    have := (List.getElem?_eq_some_iff.1 (mfind_some (i := y.1) (v := y.2) h)).1
    intro e
    have := congrArg List.length e
    simp at this
    simp [this] at *
/-- How the costs of one pair change with an arc. -/
def stVw (v : Int → Int → Nat → Nat) (c : Nat) (a : Ar) (i o : Int) (q : Nat) : Nat := if a.i = i ∧ a.o = o ∧ a.t = (q : Int) ∧ c + a.w.toNat < v i o q then c + a.w.toNat else v i o q
theorem stVw_off {v : Int → Int → Nat → Nat} {c : Nat} {a : Ar} {i o : Int} {q : Nat} (h : ¬ (i, o) = (a.i, a.o)) : stVw v c a i o q = v i o q := by
  unfold stVw
  rw [if_neg]
  rintro ⟨h1, h2, _⟩
  exact h (by rw [h1, h2])
theorem enB_at {v : Int → Int → Nat → Nat} {c : Nat} {a : Ar} {n : Nat} (hw : 0 ≤ a.w) (ht : 0 ≤ a.t ∧ a.t < n) (hcb : c + a.w.toNat < big) {t : Int} {lj lj' : List (Int × Int)} (hg : ∀ t : Int, mget lj t = if 0 ≤ t ∧ t < n then enB (v a.i a.o t.toNat) else none)
    (h : (lj' = mput lj a.t ((c : Int) + a.w) ∧ (mget lj a.t = none ∨ ∃ w, mget lj a.t = some w ∧ (c : Int) + a.w < w)) ∨ (lj' = lj ∧ ∃ w, mget lj a.t = some w ∧ ¬ (c : Int) + a.w < w)) : mget lj' t = if 0 ≤ t ∧ t < n then enB (stVw v c a a.i a.o t.toNat) else none := by
  have hga := hg a.t
  rw [if_pos ht] at hga
  unfold enB at hga hg ⊢
  unfold stVw
  by_cases e : t = a.t
  · subst e
    rw [if_pos ht]
    have ht2 : ((a.t.toNat : Nat) : Int) = a.t := Int.toNat_of_nonneg ht.1
    simp only [ht2, true_and]
    generalize v a.i a.o a.t.toNat = x at hga
    generalize big = bg at hga hcb
    rcases h with ⟨rfl, h⟩ | ⟨rfl, w, h, h2⟩
    · rw [mget_mput, if_pos rfl]
      have hlt : c + a.w.toNat < x := by
        rcases h with h | ⟨w, h, h2⟩
        · rw [h] at hga
          split at hga
          · omega
          cases hga
        rw [h] at hga
        split at hga
        · cases hga
        simp only [Option.some.injEq] at hga
        omega
      have e : (if c + a.w.toNat < x then c + a.w.toNat else x) = c + a.w.toNat := if_pos hlt
      rw [e, if_neg (show ¬ c + a.w.toNat = bg by omega)]
      congr 1
      omega
    rw [hga]
    rw [h] at hga
    split at hga
    · cases hga
    rename_i hxb
    simp only [Option.some.injEq] at hga
    have e : (if c + a.w.toNat < x then c + a.w.toNat else x) = x := if_neg zT13
    rw [if_neg hxb, e, if_neg hxb]
  have hne : ∀ t' : Int, 0 ≤ t' → ¬ t' = a.t → ¬ a.t = ((t'.toNat : Nat) : Int) := fun t' h0 h1 h2 => by omega
  have : mget lj' t = mget lj t := by
    rcases h with ⟨rfl, _⟩ | ⟨rfl, _⟩
    · rw [mget_mput, if_neg e]
    rfl
  rw [this, hg]
  by_cases h0 : 0 ≤ t ∧ t < n
  · rw [if_pos h0, if_pos h0]
    have := hne t h0.1 e
    have h9 : (if a.i = a.i ∧ a.o = a.o ∧ a.t = ((t.toNat : Nat) : Int) ∧ c + a.w.toNat < v a.i a.o t.toNat then c + a.w.toNat else v a.i a.o t.toNat) = v a.i a.o t.toNat := if_neg fun h => this h.2.2.1
    rw [h9]
  rw [if_neg h0, if_neg h0]
theorem mem_set_key {L : RcL} {j : Nat} {k : Int × Int} {lj l' : List (Int × Int)} (hn : (L.map (·.1)).Nodup) (hj : L[j]? = some (k, lj)) {x : (Int × Int) × List (Int × Int)} : x ∈ L.set j (k, l') ↔ x = (k, l') ∨ (x ∈ L ∧ x.1 ≠ k) := by
  have hjl := (List.getElem?_eq_some_iff.1 hj).1
  have huniq : ∀ (i : Nat) (y : (Int × Int) × List (Int × Int)), L[i]? = some y → y.1 = k → i = j := by
    intro i y hi hy
    have h1 : (L.map (·.1))[i]? = some k := by rw [List.getElem?_map, hi]; simp [hy]
    have h2 : (L.map (·.1))[j]? = some k := by rw [List.getElem?_map, hj]; rfl
    obtain ⟨hi1, hi2⟩ := List.getElem?_eq_some_iff.1 h1
    obtain ⟨hj1, hj2⟩ := List.getElem?_eq_some_iff.1 h2
    exact (List.getElem_inj hn).1 (hi2.trans hj2.symm)
  constructor
  · intro h
    obtain ⟨i, hi⟩ := List.getElem?_of_mem h
    rw [List.getElem?_set] at hi
    split at hi
    · left
      first
        | exact (Option.some.inj hi).symm
        | (rw [if_pos hjl] at hi; exact (Option.some.inj hi).symm)
    rename_i hne
    exact .inr ⟨List.mem_of_getElem? hi, fun e => hne (huniq i x hi e).symm⟩
  rintro (rfl | ⟨h1, h2⟩)
  · exact List.mem_of_getElem? (by rw [List.getElem?_set, if_pos rfl, if_pos hjl])
  obtain ⟨i, hi⟩ := List.getElem?_of_mem h1
  refine List.mem_of_getElem? (i := i) ?_
  rw [List.getElem?_set, if_neg]
  · exact hi
  rintro rfl
  rw [hj] at hi
  cases hi
  exact h2 rfl
theorem keys_set {L : RcL} {j : Nat} {k : Int × Int} {lj l' : List (Int × Int)} (hj : L[j]? = some (k, lj)) : (L.set j (k, l')).map (·.1) = L.map (·.1) := by
  refine List.ext_getElem? fun i => ?_
  rw [List.getElem?_map, List.getElem?_map, List.getElem?_set]
  split
  · rename_i e; subst e
    rw [if_pos (List.getElem?_eq_some_iff.1 hj).1, hj]; rfl
  rfl
theorem RcI.arc {n : Nat} {L : RcL} {v : Int → Int → Nat → Nat} {ks : Int × Int → Prop} (h : RcI n L v ks) {c : Nat} {a : Ar} (hw : 0 ≤ a.w) (ht : 0 ≤ a.t ∧ a.t < n) (hcb : c + a.w.toNat < big) : RcI n (rcA L c a) (stVw v c a) (fun k => ks k ∨ k = (a.i, a.o)) := by
  have hno : ∀ k, ¬ (ks k ∨ k = (a.i, a.o)) → ∀ q, stVw v c a k.1 k.2 q = big := by
    intro k hk q
    rw [stVw_off (fun e => hk (.inr (by rw [← e]))), h.no k (fun hh => hk (.inl hh))]
  cases hf : kfind L (a.i, a.o) 0 with
  | none =>
    have hnk : ¬ ks (a.i, a.o) := fun hk => by
      obtain ⟨lj, hm⟩ := (h.ke _).1 hk
      exact kfind_none.1 hf _ hm rfl
    have hL : rcA L c a = L ++ [((a.i, a.o), mput [] a.t ((c : Int) + a.w))] := by
      rw [rcA_new hf, List.set_append_right _ _ (Nat.le_refl _), Nat.sub_self]
      rfl
    rw [hL]
    refine ⟨?_, ?_, ?_, hno⟩
    · rw [List.map_append, List.nodup_append]
      refine ⟨h.nd, by simp, fun x hx y hy => ?_⟩
      simp only [List.map_cons, List.map_nil, List.mem_singleton] at hy
      subst hy
      obtain ⟨z, hz, rfl⟩ := List.mem_map.1 hx
      exact kfind_none.1 hf z hz
    · intro k lj hm
      rcases List.mem_append.1 hm with hm | hm
      · obtain ⟨h1, h2, h3⟩ := h.el k lj hm
        refine ⟨h1, h2, fun t => ?_⟩
        rw [stVw_off (kfind_none.1 hf _ hm)]
        exact h3 t
      simp only [List.mem_singleton, Prod.mk.injEq] at hm
      obtain ⟨rfl, rfl⟩ := hm
      refine ⟨mput_ne, mput_keys _ _ zT14, fun t => ?_⟩
      refine enB_at hw ht hcb (lj := []) (fun t => ?_) (.inl ⟨rfl, .inl rfl⟩)
      have := h.no _ hnk t.toNat
      simp only at this
      rw [this]
      simp [enB, mget, mfind]
    intro k
    rw [h.ke k]
    constructor
    · rintro (⟨lj, hm⟩ | rfl)
      · exact ⟨lj, List.mem_append_left _ hm⟩
      exact ⟨_, List.mem_append_right _ (List.mem_singleton_self _)⟩
    rintro ⟨lj, hm⟩
    rcases List.mem_append.1 hm with hm | hm
    · exact .inl ⟨lj, hm⟩
    simp only [List.mem_singleton, Prod.mk.injEq] at hm
    exact .inr hm.1
  | some jl =>
    obtain ⟨j, lj⟩ := jl
    have hj := kfind_some hf
    have hm0 := List.mem_of_getElem? hj
    obtain ⟨g1, g2, g3⟩ := h.el _ _ hm0
    simp only at g3
    by_cases hp : mget lj a.t = none ∨ ∃ w, mget lj a.t = some w ∧ (c : Int) + a.w < w
    · rw [rcA_put hf hp]
      refine ⟨by rw [keys_set hj]; exact h.nd, ?_, ?_, hno⟩
      · intro k lk hm
        rcases (mem_set_key h.nd hj).1 hm with e | ⟨hm, hne⟩
        · simp only [Prod.mk.injEq] at e
          obtain ⟨rfl, rfl⟩ := e
          exact ⟨mput_ne, mput_keys _ _ g2, fun t => enB_at hw ht hcb g3 (.inl ⟨rfl, hp⟩)⟩
        obtain ⟨h1, h2, h3⟩ := h.el k lk hm
        refine ⟨h1, h2, fun t => ?_⟩
        rw [stVw_off hne]
        exact h3 t
      intro k
      rw [h.ke k]
      constructor
      · rintro (⟨lk, hm⟩ | rfl)
        · by_cases e : k = (a.i, a.o)
          · subst e
            exact ⟨_, (mem_set_key h.nd hj).2 (.inl rfl)⟩
          exact ⟨lk, (mem_set_key h.nd hj).2 (.inr ⟨hm, e⟩)⟩
        exact ⟨_, (mem_set_key h.nd hj).2 (.inl rfl)⟩
      rintro ⟨lk, hm⟩
      rcases (mem_set_key h.nd hj).1 hm with e | ⟨hm, hne⟩
      · simp only [Prod.mk.injEq] at e
        exact .inr e.1
      exact .inl ⟨lk, hm⟩
    obtain ⟨w, hw1, hw2⟩ : ∃ w, mget lj a.t = some w ∧ ¬ (c : Int) + a.w < w := by
      cases hg : mget lj a.t with
      | none => exact absurd (.inl hg) hp
      | some w => exact ⟨w, rfl, fun hlt => hp (.inr ⟨w, hg, hlt⟩)⟩
    rw [rcA_old hf hw1 hw2]
    refine ⟨h.nd, ?_, ?_, hno⟩
    · intro k lk hm
      obtain ⟨h1, h2, h3⟩ := h.el k lk hm
      refine ⟨h1, h2, fun t => ?_⟩
      by_cases e : k = (a.i, a.o)
      · subst e
        exact enB_at hw ht hcb h3 (.inr ⟨rfl, by
          have h4 := h3 a.t
          have h5 := g3 a.t
          simp only at h4 h5
          rw [h5.symm.trans hw1] at h4
          exact ⟨w, h4, hw2⟩⟩)
      rw [stVw_off e]
      exact h3 t
    intro k
    rw [h.ke k]
    constructor
    · rintro (hk | rfl)
      · exact hk
      exact ⟨lj, hm0⟩
    exact fun hk => .inl hk
theorem RcI.arcs {n c : Nat} : ∀ (A : List Ar) {L : RcL} {v : Int → Int → Nat → Nat} {ks : Int × Int → Prop}, RcI n L v ks → (∀ a ∈ A, 0 ≤ a.w ∧ (0 ≤ a.t ∧ a.t < n) ∧ c + a.w.toNat < big) → RcI n (A.foldl (fun L a => rcA L c a) L) (fun i o q => bhA i o c q (v i o q) A) (fun k => ks k ∨ ∃ a ∈ A, k = (a.i, a.o))
  | [], L, v, ks, h, _ => by simpa [bhA] using h
  | a :: A, L, v, ks, h, hA => by
    obtain ⟨h1, h2, h3⟩ := hA a List.mem_cons_self
    have := RcI.arcs A (h.arc h1 h2 h3) fun x hx => hA x (List.mem_cons_of_mem _ hx)
    have e : (fun k : Int × Int => (ks k ∨ k = (a.i, a.o)) ∨ ∃ b ∈ A, k = (b.i, b.o)) = fun k => ks k ∨ ∃ b ∈ a :: A, k = (b.i, b.o) := by
      funext k
      rw [eq_iff_iff]
      constructor
      · rintro ((h | h) | ⟨b, h, h'⟩)
        · exact .inl h
        · exact .inr ⟨a, List.mem_cons_self, h⟩
        exact .inr ⟨b, List.mem_cons_of_mem _ h, h'⟩
      rintro (h | ⟨b, h, h'⟩)
      · exact .inl (.inl h)
      rcases List.mem_cons.1 h with rfl | h
      · exact .inl (.inr h')
      exact .inr ⟨b, h, h'⟩
    rw [e] at this
    exact this
theorem RcI.sts {sts : List St} {d : List Nat} (hl : d.length = sts.length) (hd : ∀ x ∈ d, x = big ∨ x ≤ 1000000000000) (ha : ∀ x ∈ sts, ∀ a ∈ x.arcs, (0 ≤ a.w ∧ a.w ≤ 1000000000) ∧ 0 ≤ a.t ∧ a.t < sts.length) : ∀ k, k ≤ d.length → RcI d.length ((toK d k).foldl (rcS sts) []) (fun i o q => bhS sts d i o q k) (fun k' => ∃ a ∈ prA sts d k, k' = (a.i, a.o))
  | 0, _ => by
    refine ⟨by simp [toK], ?_, ?_, ?_⟩
    · intro k lj h; simp [toK] at h
    · intro k; simp [toK, prA]
    intro k _ q; rfl
  | k + 1, hk => by
    have ih := RcI.sts hl hd ha k zT13
    have hkd : k < d.length := by omega
    have hx : sts[k]? = some (sts[k]'zT13) := List.getElem?_eq_getElem zT13
    have hc : d[k]? = some d[k] := List.getElem?_eq_getElem hkd
    have hcb := hd _ (List.getElem_mem hkd)
    have hxa := ha _ (List.getElem_mem (show k < sts.length by omega))
    generalize sts[k]'zT13 = x at hx hxa
    generalize d[k] = c at hc hcb
    have hgd : d.getD k big = c := by rw [List.getD_eq_getElem?_getD, hc]; rfl
    by_cases e : c = big
    · subst e
      have e1 : (fun i o q => bhS sts d i o q (k + 1)) = fun i o q => bhS sts d i o q k := by
        funext i o q
        rw [bhS, hgd, if_pos rfl]
      rw [prA_none hc, e1, toK, hgd, if_pos rfl]
      exact ih
    have hc2 : c ≤ 1000000000000 := hcb.resolve_left e
    have e1 : (fun i o q => bhS sts d i o q (k + 1)) = fun i o q => bhA i o c q (bhS sts d i o q k) x.arcs := by
      funext i o q
      rw [bhS, hgd, if_neg e, stA_of hx]
    have e2 : (fun k' : Int × Int => ∃ a ∈ prA sts d (k + 1), k' = (a.i, a.o)) = fun k' => (∃ a ∈ prA sts d k, k' = (a.i, a.o)) ∨ ∃ a ∈ x.arcs, k' = (a.i, a.o) := by
      funext k'
      rw [prA_some hc e hx, eq_iff_iff]
      constructor
      · rintro ⟨a, h, h'⟩
        rcases List.mem_append.1 h with h | h
        · exact .inl ⟨a, h, h'⟩
        exact .inr ⟨a, h, h'⟩
      rintro (⟨a, h, h'⟩ | ⟨a, h, h'⟩)
      · exact ⟨a, List.mem_append_left _ h, h'⟩
      exact ⟨a, List.mem_append_right _ h, h'⟩
    rw [e1, e2, toK, hgd, if_neg e, List.foldl_append]
    simp only [List.foldl_cons, List.foldl_nil, rcS, stA_of hx]
    refine RcI.arcs x.arcs ih fun a ham => ?_
    obtain ⟨⟨h1, h2⟩, h3, h4⟩ := hxa a ham
    exact ⟨h1, ⟨h3, by omega⟩, big_gt zT13 zT13⟩
/- The pairs in order. -/
def ltQ (x y : Int × Int) : Prop := x.1 < y.1 ∨ x.1 = y.1 ∧ x.2 < y.2
def pq (a : Ar) : Int × Int := (a.i, a.o)
theorem uniq_lt {α : Type} {r : α → α → Prop} (hr : ∀ a b, r a b → r b a → False) : ∀ {l l' : List α}, l.Pairwise r → l'.Pairwise r → (∀ x, x ∈ l ↔ x ∈ l') → l = l'
  | [], [], _, _, _ => rfl
  | [], y :: l', _, _, h => by have := (h y).2 List.mem_cons_self; cases this
  | x :: l, [], _, _, h => by have := (h x).1 List.mem_cons_self; cases this
  | x :: l, y :: l', h1, h2, h => by
    have a1 := List.pairwise_cons.1 h1
    have a2 := List.pairwise_cons.1 h2
    have hxy : x = y := by
      rcases List.mem_cons.1 ((h x).1 List.mem_cons_self) with e | hx
      · exact e
      rcases List.mem_cons.1 ((h y).2 List.mem_cons_self) with e | hy
      · exact e.symm
      exact absurd (a2.1 x hx) fun h3 => hr _ _ h3 (a1.1 y hy)
    subst hxy
    rw [uniq_lt hr a1.2 a2.2 fun z => ?_]
    constructor
    · intro hz
      rcases List.mem_cons.1 ((h z).1 (List.mem_cons_of_mem _ hz)) with e | hz'
      · subst e
        exact absurd (a1.1 z hz) fun h3 => hr _ _ h3 h3
      exact hz'
    intro hz
    rcases List.mem_cons.1 ((h z).2 (List.mem_cons_of_mem _ hz)) with e | hz'
    · subst e
      exact absurd (a2.1 z hz) fun h3 => hr _ _ h3 h3
    exact hz'
theorem ltQ_asy (a b : Int × Int) (h1 : ltQ a b) (h2 : ltQ b a) : False := by
  unfold ltQ at h1 h2
  omega
theorem prL_spec {l : List Ar} (hs : Sd ahd l) : ∀ k, k ≤ l.length → ((prL l k).map pq).Pairwise ltQ ∧ (∀ a ∈ l.take k, ∃ b ∈ prL l k, pq b = pq a) ∧ ∀ b ∈ prL l k, b ∈ l.take k
  | 0, _ => by simp [prL]
  | k + 1, hk => by
    obtain ⟨h1, h2, h3⟩ := prL_spec hs k zT13
    have hkl : k < l.length := by omega
    have ha : l[k]? = some l[k] := List.getElem?_eq_getElem hkl
    have hord : ∀ b ∈ l.take k, ahd l[k] b = false := by
      intro b hb
      obtain ⟨i, hi⟩ := List.getElem?_of_mem hb
      rw [List.getElem?_take] at hi
      split at hi
      · rename_i hik
        obtain ⟨hil, rfl⟩ := List.getElem?_eq_some_iff.1 hi
        exact List.pairwise_iff_getElem.1 hs i k hil hkl hik
      cases hi
    generalize hA : l[k] = a at ha hord
    have htk : l.take (k + 1) = l.take k ++ [a] := take_snoc ha
    have hle : ∀ b ∈ l.take k, ¬ ltQ (pq a) (pq b) := by
      intro b hb h
      have := hord b hb
      rw [Bool.eq_false_iff, ne_eq, ahd_iff] at this
      unfold ltQ pq at h
      simp only at h
      omega
    by_cases hk0 : k = 0
    · subst hk0
      rw [prL_first ha, htk]
      simp
    have hb : l[k - 1]? = some (l[k - 1]'zT13) := List.getElem?_eq_getElem zT13
    generalize l[k - 1]'zT13 = b at hb
    have hbm : b ∈ l.take k := List.mem_of_getElem? (i := k - 1) (by rw [List.getElem?_take, if_pos zT13, hb])
    have hbl : ∀ c ∈ l.take k, ¬ ltQ (pq b) (pq c) := by
      intro c hc h
      obtain ⟨i, hi⟩ := List.getElem?_of_mem hc
      rw [List.getElem?_take] at hi
      split at hi
      · rename_i hik
        by_cases e : i = k - 1
        · subst e
          rw [hb] at hi
          cases hi
          exact ltQ_asy _ _ h h
        obtain ⟨hil, rfl⟩ := List.getElem?_eq_some_iff.1 hi
        obtain ⟨hbl, rfl⟩ := List.getElem?_eq_some_iff.1 hb
        have := List.pairwise_iff_getElem.1 hs i (k - 1) hil hbl zT13
        rw [Bool.eq_false_iff, ne_eq, ahd_iff] at this
        unfold ltQ pq at h
        simp only at h
        omega
      cases hi
    by_cases hne : a.i ≠ b.i ∨ a.o ≠ b.o
    · rw [prL_new ha hb hne, htk]
      refine ⟨?_, ?_, ?_⟩
      · rw [List.map_append, List.pairwise_append]
        refine ⟨h1, by simp, fun x hx y hy => ?_⟩
        simp only [List.map_cons, List.map_nil, List.mem_singleton] at hy
        subst hy
        obtain ⟨z, hz, rfl⟩ := List.mem_map.1 hx
        have hz2 := h3 z hz
        have h4 := hbl z hz2
        have h5 := hle b hbm
        unfold ltQ pq at h4 h5 ⊢
        simp only at h4 h5 ⊢
        omega
      · intro c hc
        rcases List.mem_append.1 hc with hc | hc
        · obtain ⟨z, hz, e⟩ := h2 c hc
          exact ⟨z, List.mem_append_left _ hz, e⟩
        rw [List.mem_singleton] at hc
        subst hc
        exact ⟨c, List.mem_append_right _ (List.mem_singleton_self _), rfl⟩
      intro c hc
      rcases List.mem_append.1 hc with hc | hc
      · exact List.mem_append_left _ (h3 c hc)
      exact List.mem_append_right _ hc
    have e1 : a.i = b.i := Classical.byContradiction fun h => hne (.inl h)
    have e2 : a.o = b.o := Classical.byContradiction fun h => hne (.inr h)
    rw [prL_old hk0 ha hb e1 e2, htk]
    refine ⟨h1, ?_, fun c hc => List.mem_append_left _ (h3 c hc)⟩
    intro c hc
    rcases List.mem_append.1 hc with hc | hc
    · exact h2 c hc
    rw [List.mem_singleton] at hc
    subst hc
    obtain ⟨z, hz, e⟩ := h2 b hbm
    exact ⟨z, hz, by rw [e]; unfold pq; rw [e1, e2]⟩
theorem prS_spec (sts : List St) (d : List Nat) : ((prS sts d).map pq).Pairwise ltQ ∧ ∀ k, k ∈ (prS sts d).map pq ↔ ∃ a ∈ prA sts d d.length, k = (a.i, a.o) := by
  obtain ⟨h1, h2, h3⟩ := prL_spec (inO_sd (prA sts d d.length)) (prA sts d d.length).length (by rw [inO_len]; exact Nat.le_refl _)
  rw [List.take_of_length_le (by rw [inO_len]; exact Nat.le_refl _)] at h2 h3
  refine ⟨h1, fun k => ?_⟩
  rw [List.mem_map]
  constructor
  · rintro ⟨b, hb, rfl⟩
    exact ⟨b, (inO_perm _).mem_iff.1 (h3 b hb), rfl⟩
  rintro ⟨a, ha, rfl⟩
  obtain ⟨b, hb, e⟩ := h2 a ((inO_perm _).mem_iff.2 ha)
  exact ⟨b, hb, e⟩
/- What settle answers. -/
/-- The program's least. -/
def mnI (l : List Int) : Int := l.foldl (fun b w => if b < 0 ∨ w < b then w else b) (-1)
theorem mnI_snoc (l : List Int) (w : Int) : mnI (l ++ [w]) = if mnI l < 0 ∨ w < mnI l then w else mnI l := by
  unfold mnI
  rw [List.foldl_append]
  rfl
theorem mnI_spec : ∀ (n : Nat) (l : List Int), l.length = n → (∀ w ∈ l, 0 ≤ w) → (l = [] → mnI l = -1) ∧ (l ≠ [] → mnI l ∈ l ∧ ∀ w ∈ l, mnI l ≤ w)
  | 0, l, h, _ => by
    obtain rfl := List.eq_nil_of_length_eq_zero h
    simp [mnI]
  | n + 1, l, h, h0 => by
    obtain ⟨l', a, rfl⟩ : ∃ l' a, l = l' ++ [a] := ⟨l.dropLast, l.getLast (by rintro rfl; simp at h), (List.dropLast_concat_getLast _).symm⟩
    obtain ⟨ih1, ih2⟩ := mnI_spec n l' (by simpa using h) fun w hw => h0 w (List.mem_append_left _ hw)
    have ha := h0 a (List.mem_append_right _ (List.mem_singleton_self _))
    refine ⟨by simp, fun _ => ?_⟩
    rw [mnI_snoc]
    by_cases e : l' = []
    · subst e
      simp [mnI]
    obtain ⟨h1, h2⟩ := ih2 e
    have h3 := h0 _ (List.mem_append_left _ h1)
    split
    · refine ⟨List.mem_append_right _ (List.mem_singleton_self _), fun w hw => ?_⟩
      rcases List.mem_append.1 hw with hw | hw
      · have := h2 w hw; omega
      rw [List.mem_singleton] at hw; omega
    refine ⟨List.mem_append_left _ h1, fun w hw => ?_⟩
    rcases List.mem_append.1 hw with hw | hw
    · exact h2 w hw
    rw [List.mem_singleton] at hw; omega
theorem mnL_spec : ∀ (n : Nat) (l : List Nat), l.length = n → (mnL l = big ∨ mnL l ∈ l) ∧ mnL l ≤ big ∧ ∀ x ∈ l, mnL l ≤ x
  | 0, l, h => by
    obtain rfl := List.eq_nil_of_length_eq_zero h
    exact ⟨.inl rfl, Nat.le_refl _, by simp⟩
  | n + 1, l, h => by
    obtain ⟨l', a, rfl⟩ : ∃ l' a, l = l' ++ [a] := ⟨l.dropLast, l.getLast (by rintro rfl; simp at h), (List.dropLast_concat_getLast _).symm⟩
    obtain ⟨ih1, ih0, ih2⟩ := mnL_spec n l' (by simpa using h)
    have e : mnL (l' ++ [a]) = if a < mnL l' then a else mnL l' := by
      unfold mnL
      rw [List.foldl_append]
      rfl
    rw [e]
    generalize mnL l' = m at ih1 ih2 ih0
    generalize big = bg at ih1 ih0
    split
    · refine ⟨.inr zT14, by omega, fun x hx => ?_⟩
      rcases List.mem_append.1 hx with hx | hx
      · have := ih2 x hx; omega
      rw [List.mem_singleton] at hx; omega
    refine ⟨ih1.imp_right (List.mem_append_left _), ih0, fun x hx => ?_⟩
    rcases List.mem_append.1 hx with hx | hx
    · exact ih2 x hx
    rw [List.mem_singleton] at hx; omega
/-- A map of costs says what a list of costs says. -/
structure LjI (n : Nat) (lj : List (Int × Int)) (x : List Nat) : Prop where
  ne : lj ≠ []
  nd : (lj.map (·.1)).Nodup
  len : x.length = n
  bd : ∀ y ∈ x, y = big ∨ y ≤ 10000000000000
  at' : ∀ t : Int, mget lj t = if 0 ≤ t ∧ t < n then enB (x.getD t.toNat big) else none
theorem LjI.mem {n : Nat} {lj : List (Int × Int)} {x : List Nat} (h : LjI n lj x) {t w : Int} : (t, w) ∈ lj ↔ ∃ q v : Nat, t = (q : Int) ∧ w = (v : Int) ∧ q < n ∧ x[q]? = some v ∧ v ≠ big := by
  rw [← mget_mem h.nd, h.at']
  unfold enB
  constructor
  · intro h1
    split at h1
    · rename_i h0
      split at h1
      · cases h1
      rename_i hb
      simp only [Option.some.injEq] at h1
      have hq : t.toNat < x.length := by rw [h.len]; omega
      refine ⟨t.toNat, x.getD t.toNat big, by omega, h1.symm, by omega, ?_, hb⟩
      rw [List.getD_eq_getElem?_getD, List.getElem?_eq_getElem hq, Option.getD_some]
    cases h1
  rintro ⟨q, v, rfl, rfl, hq, hx, hb⟩
  rw [if_pos ⟨by omega, by omega⟩, List.getD_eq_getElem?_getD, Int.toNat_natCast, hx, Option.getD_some, if_neg hb]
theorem LjI.least {n : Nat} {lj : List (Int × Int)} {x : List Nat} (h : LjI n lj x) {A : List Int} (hA : A.Perm (lj.map (·.2))) : mnI A = (mnL x : Int) ∧ mnL x ≠ big := by
  have hnn : ∀ w ∈ A, 0 ≤ w := by
    intro w hw
    obtain ⟨⟨t, u⟩, hm, rfl⟩ := List.mem_map.1 (hA.mem_iff.1 hw)
    obtain ⟨q, v, _, rfl, _⟩ := h.mem.1 hm
    simp only
    omega
  have hne : A ≠ [] := by
    rintro rfl
    have := hA.length_eq
    have h2 := List.length_pos_iff.2 h.ne
    rw [List.length_map] at this
    simp at this
    omega
  obtain ⟨h1, h2⟩ := (mnI_spec _ A rfl hnn).2 hne
  obtain ⟨⟨t, u⟩, hm, hu⟩ := List.mem_map.1 (hA.mem_iff.1 h1)
  obtain ⟨q, v, rfl, rfl, hq, hx, hv⟩ := h.mem.1 hm
  obtain ⟨m1, m2, m3⟩ := mnL_spec _ x rfl
  simp only at hu
  have h3 := m3 v (List.mem_of_getElem? hx)
  have hv2 : v ≤ 10000000000000 := (h.bd v (List.mem_of_getElem? hx)).resolve_left hv
  have hlt : mnL x ≠ big := by
    intro e
    rw [e] at h3
    have h4 := big_gt (x := v) (y := 0) hv2 zT13
    generalize big = bg at h3 h4
    omega
  refine ⟨?_, hlt⟩
  have h5 := m1.resolve_left hlt
  obtain ⟨q', hq'⟩ := List.getElem?_of_mem h5
  have hql : q' < n := by
    have := (List.getElem?_eq_some_iff.1 hq').1
    rw [h.len] at this
    exact this
  have h6 : ((q' : Int), ((mnL x : Nat) : Int)) ∈ lj := h.mem.2 ⟨q', mnL x, rfl, rfl, hql, hq', hlt⟩
  have h7 := h2 _ (hA.mem_iff.2 (List.mem_map.2 ⟨_, h6, rfl⟩))
  simp only at h7
  generalize mnL x = m at h3 h7 ⊢
  omega
theorem sbV_at {x : List Nat} {w q : Nat} (h : q < x.length) : (sbL x w).getD q big = sbV w (x.getD q big) := by
  unfold sbL
  rw [List.getD_eq_getElem?_getD, List.getD_eq_getElem?_getD, List.getElem?_map, List.getElem?_eq_getElem h]
  rfl
/-- The states in order are those of the set. -/
theorem LjI.states {n : Nat} {lj : List (Int × Int)} {x : List Nat} (h : LjI n lj x) {A : List Nat} (hA : A.Perm (lj.map fun y => y.1.toNat)) : leN A = (toP (sbL x (mnL x))).map (·.1) := by
  have hm0 : ∀ q, q ∈ A ↔ q < n ∧ x.getD q big ≠ big := by
    intro q
    rw [hA.mem_iff, List.mem_map]
    constructor
    · rintro ⟨⟨t, w⟩, hm, rfl⟩
      obtain ⟨q, v, rfl, rfl, hq, hx, hv⟩ := h.mem.1 hm
      simp only [Int.toNat_natCast]
      refine ⟨hq, ?_⟩
      rw [List.getD_eq_getElem?_getD, hx]
      exact hv
    rintro ⟨hq, hx⟩
    have hql : q < x.length := by rw [h.len]; exact hq
    rw [List.getD_eq_getElem?_getD, List.getElem?_eq_getElem hql, Option.getD_some] at hx
    exact ⟨((q : Int), (x[q] : Int)), h.mem.2 ⟨q, x[q], rfl, rfl, hq, List.getElem?_eq_getElem hql, hx⟩, by simp⟩
  have hnd : A.Nodup := by
    refine hA.nodup_iff.2 ?_
    have h1 : (lj.map fun y => y.1.toNat) = (lj.map (·.1)).map Int.toNat := by rw [List.map_map]; rfl
    rw [h1]
    have h2 : ∀ t ∈ lj.map (·.1), 0 ≤ t := by
      intro t ht
      obtain ⟨⟨t, w⟩, hm, rfl⟩ := List.mem_map.1 ht
      obtain ⟨q, v, rfl, rfl, _⟩ := h.mem.1 hm
      simp only
      omega
    refine List.pairwise_map.2 ((List.Pairwise.imp_of_mem ?_ h.nd))
    intro a b ha hb hab e
    have := h2 a ha
    have := h2 b hb
    omega
  refine uniq_lt (r := fun x y : Nat => x < y) (fun a b h1 h2 => by omega) (leN_lt hnd) (List.pairwise_map.2 (toK_lt _ _)) fun q => ?_
  rw [(leN_perm A).mem_iff, hm0, List.mem_map]
  have hlm := h.least (List.Perm.refl _)
  have hb : ∀ y : Nat, y ≠ big → (y = big ∨ y ≤ 10000000000000) → sbV (mnL x) y ≠ big := by
    intro y hy hy2
    unfold sbV
    rw [if_neg hy]
    have hy3 := hy2.resolve_left hy
    have h4 := big_gt (x := y) (y := 0) hy3 zT13
    generalize big = bg at h4
    omega
  constructor
  · rintro ⟨hq, hx⟩
    have hql : q < x.length := by rw [h.len]; exact hq
    refine ⟨(q, sbV (mnL x) (x.getD q big)), toK_mem.2 ⟨by simp [sbL]; exact hql, sbV_at hql, ?_⟩, rfl⟩
    refine hb _ hx (h.bd _ ?_)
    rw [List.getD_eq_getElem?_getD, List.getElem?_eq_getElem hql, Option.getD_some]
    exact List.getElem_mem hql
  rintro ⟨⟨q', v⟩, hm, rfl⟩
  obtain ⟨h1, h2, h3⟩ := toK_mem.1 hm
  simp only [sbL, List.length_map] at h1 h2 h3
  refine ⟨by rw [← h.len]; exact h1, fun e => ?_⟩
  have := sbV_at (w := mnL x) h1
  rw [e] at this
  unfold sbL at this
  rw [h2] at this
  exact h3 (by rw [this]; unfold sbV; rw [if_pos rfl])
/-- The parts in order are the set. -/
theorem LjI.parts {n : Nat} {lj : List (Int × Int)} {x : List Nat} (h : LjI n lj x) : ((toP (sbL x (mnL x))).map (·.1)).map (fun q : Nat => (q, ((mget lj (q : Int)).getD 0 - (mnL x : Int)).toNat)) = toP (sbL x (mnL x)) ∧ ∀ q : Nat, q ∈ (toP (sbL x (mnL x))).map (·.1) → 0 ≤ (mget lj (q : Int)).getD 0 - (mnL x : Int) := by
  have key : ∀ y ∈ toP (sbL x (mnL x)), 0 ≤ (mget lj (y.1 : Int)).getD 0 - (mnL x : Int) ∧ ((mget lj (y.1 : Int)).getD 0 - (mnL x : Int)).toNat = y.2 := by
    rintro ⟨q, v⟩ hm
    obtain ⟨h1, h2, h3⟩ := toK_mem.1 hm
    simp only [sbL, List.length_map] at h1 h2
    have h4 := sbV_at (w := mnL x) h1
    unfold sbL at h4
    rw [h2] at h4
    have hne : x.getD q big ≠ big := fun e => h3 (by rw [h4, e]; unfold sbV; rw [if_pos rfl])
    have hmem : x.getD q big ∈ x := by
      rw [List.getD_eq_getElem?_getD, List.getElem?_eq_getElem h1, Option.getD_some]
      exact List.getElem_mem h1
    have h5 := (mnL_spec _ x rfl).2.2 _ hmem
    unfold sbV at h4
    rw [if_neg hne] at h4
    have h6 := h.at' (q : Int)
    rw [if_pos ⟨by omega, by rw [← h.len]; omega⟩, Int.toNat_natCast] at h6
    unfold enB at h6
    rw [if_neg hne] at h6
    simp only [h6, Option.getD_some]
    generalize x.getD q big = y at h4 h5
    omega
  refine ⟨?_, fun q hq => ?_⟩
  · rw [List.map_map]
    conv => rhs; rw [← List.map_id (toP (sbL x (mnL x)))]
    refine List.map_congr_left fun y hy => ?_
    have := (key y hy).2
    simp only [Function.comp, this, id]
  obtain ⟨y, hy, rfl⟩ := List.mem_map.1 hq
  exact (key y hy).1
/-- What one pair of labels reaches. -/
theorem rcP_lj {sts : List St} {d : List Nat} (hl : d.length = sts.length) (hd : ∀ x ∈ d, x = big ∨ x ≤ 1000000000000) (ha : ∀ x ∈ sts, ∀ a ∈ x.arcs, (0 ≤ a.w ∧ a.w ≤ 1000000000) ∧ 0 ≤ a.t ∧ a.t < sts.length) {p : Ar} {lj : List (Int × Int)} (hm : (pq p, lj) ∈ rcP sts (toP d)) : LjI d.length lj (nxL sts d p) := by
  have h := RcI.sts hl hd ha d.length (Nat.le_refl _)
  obtain ⟨h1, h2, h3⟩ := h.el _ _ hm
  simp only [pq] at h3
  refine ⟨h1, h2, by simp [nxL, bhD, bl], ?_, fun t => ?_⟩
  · intro y hy
    have h5 := (bhD_bound (i := p.i) (o := p.o) (n := d.length) (B := 1000000000000) ⟨rfl, hd⟩ fun x hx a hax => (ha x hx a hax).1.2).2 y hy
    rcases h5 with h5 | h5
    · exact .inl h5
    exact .inr zT13
  rw [h3 t]
  split
  · rename_i h0
    have : (nxL sts d p).getD t.toNat big = bhS sts d p.i p.o t.toNat d.length := by
      unfold nxL bhD
      rw [List.getD_eq_getElem?_getD, bl_get zT13]
      rfl
    rw [this]
  rfl
theorem rcP_keys {sts : List St} {d : List Nat} (hl : d.length = sts.length) (hd : ∀ x ∈ d, x = big ∨ x ≤ 1000000000000) (ha : ∀ x ∈ sts, ∀ a ∈ x.arcs, (0 ≤ a.w ∧ a.w ≤ 1000000000) ∧ 0 ≤ a.t ∧ a.t < sts.length) : ((rcP sts (toP d)).map (·.1)).Nodup ∧ ∀ k, k ∈ (prS sts d).map pq ↔ k ∈ (rcP sts (toP d)).map (·.1) := by
  have h := RcI.sts hl hd ha d.length (Nat.le_refl _)
  refine ⟨h.nd, fun k => ?_⟩
  rw [(prS_spec sts d).2 k]
  refine (h.ke k).trans ?_
  rw [List.mem_map]
  constructor
  · rintro ⟨lj, hm⟩; exact ⟨_, hm, rfl⟩
  rintro ⟨⟨k', lj⟩, hm, rfl⟩; exact ⟨lj, hm⟩
theorem kfind_mem {L : RcL} {k : Int × Int} (h : k ∈ L.map (·.1)) : ∃ j lj, kfind L k 0 = some (j, lj) ∧ (k, lj) ∈ L := by
  cases hf : kfind L k 0 with
  | none =>
    obtain ⟨x, hx, e⟩ := List.mem_map.1 h
    exact absurd e (kfind_none.1 hf x hx)
  | some jl => exact ⟨jl.1, jl.2, rfl, List.mem_of_getElem? (kfind_some hf)⟩
/-- The numbers of the sets, by their keys. -/
def numK (L : List (List Nat)) : List (ByteArray × Int) := L.zipIdx.map fun x => (kyS (toP x.1), (x.2 : Int))
theorem numK_snoc (L : List (List Nat)) (y : List Nat) : numK (L ++ [y]) = numK L ++ [(kyS (toP y), (L.length : Int))] := by
  unfold numK
  rw [List.zipIdx_append, List.map_append]
  simp
theorem numK_one (y : List Nat) : numK [y] = [(kyS (toP y), 0)] := by simp [numK]
theorem numK_ne {L : List (List Nat)} (h : L ≠ []) : numK L ≠ [] := by
  unfold numK
  simpa using h
theorem mget_zip {n : Nat} {y : List Nat} (hy : y.length = n) : ∀ (L : List (List Nat)) (j : Nat), (∀ x ∈ L, x.length = n) → mget ((L.zipIdx j).map fun x => (kyS (toP x.1), (x.2 : Int))) (kyS (toP y)) = if lIx L y = L.length then none else some ((lIx L y + j : Nat) : Int)
  | [], j, _ => by simp [mget, mfind, lIx]
  | x :: L, j, h => by
    have ih := mget_zip hy L (j + 1) fun z hz => h z (List.mem_cons_of_mem _ hz)
    rw [List.zipIdx_cons, List.map_cons, mget_cons, ih]
    have hx := h x List.mem_cons_self
    by_cases e : x = y
    · subst e
      have : lIx (x :: L) x = 0 := by simp [lIx, List.findIdx_cons]
      rw [if_pos rfl, this, if_neg zT14]
      simp
    have hk : ¬ kyS (toP y) = kyS (toP x) := fun h2 => e (toP_inj (hx.trans hy.symm) (kyS_inj h2).symm)
    have : lIx (x :: L) y = lIx L y + 1 := by simp [lIx, List.findIdx_cons, e]
    rw [if_neg hk, this]
    simp only [List.length_cons]
    by_cases e2 : lIx L y = L.length
    · rw [if_pos e2, if_pos zT13]
    rw [if_neg e2, if_neg zT13]
    congr 2
    omega
theorem numK_get {n : Nat} {y : List Nat} (hy : y.length = n) {L : List (List Nat)} (h : ∀ x ∈ L, x.length = n) : mget (numK L) (kyS (toP y)) = if lIx L y = L.length then none else some (lIx L y : Int) := mget_zip hy L 0 h
def sortPart_ren : Go.Shelf.Ren := ⟨fun | 14 => 55 | 20 => 70 | 21 => 71 | 22 => 72 | 23 => 73 | 24 => 74 | 25 => 75 | 26 => 76 | 27 => 77 | 46 => 83 | 47 => 66 | 48 => 67 | 49 => 84 | 50 => 85 | 15 => 30 | 57 => 90 | 28 => 53 | 29 => 54 | n => n, fun | 24 => 39 | 22 => 40 | 3 => 3 | 25 => 89 | 4 => 4 | 0 => 0 | 46 => 100 | 45 => 99 | 50 => 83 | 66 => 116 | 39 => 86 | 55 => 108 | 70 => 120 | 76 => 131 | 77 => 132 | 53 => 106 | 5 => 5 | 9 => 9 | n => n, fun | n => n⟩
theorem sortPart : Go.Proofs.SlLaysF0.n14 Tryd.prog sortPart_ren := {
  mixed := by kernel_rfl
  f14 := ⟨Tryd.f55.name, by decide, Tryd.func55.trans (congrArg some zT10)⟩
  f15 := Tryd.func30.trans (congrArg some zT10)
  f20 := ⟨Tryd.f70.name, by decide, Tryd.func70.trans (congrArg some zT10)⟩
  f21 := ⟨Tryd.f71.name, by decide, Tryd.func71.trans (congrArg some zT10)⟩
  f22 := ⟨Tryd.f72.name, by decide, Tryd.func72.trans (congrArg some zT10)⟩
  f23 := ⟨Tryd.f73.name, by decide, Tryd.func73.trans (congrArg some zT10)⟩
  f24 := ⟨Tryd.f74.name, by decide, Tryd.func74.trans (congrArg some zT10)⟩
  f25 := ⟨Tryd.f75.name, by decide, Tryd.func75.trans (congrArg some zT10)⟩
  f26 := ⟨Tryd.f76.name, by decide, Tryd.func76.trans (congrArg some zT10)⟩
  f27 := ⟨Tryd.f77.name, by decide, Tryd.func77.trans (congrArg some zT10)⟩
  f28 := Tryd.func53.trans (congrArg some zT10)
  f29 := Tryd.func54.trans (congrArg some zT10)
  f46 := ⟨Tryd.f83.name, by decide, Tryd.func83.trans (congrArg some zT10)⟩
  f47 := Tryd.func66.trans (congrArg some zT10)
  f48 := Tryd.func67.trans (congrArg some zT10)
  f49 := ⟨Tryd.f84.name, by decide, Tryd.func84.trans (congrArg some zT10)⟩
  f50 := ⟨Tryd.f85.name, by decide, Tryd.func85.trans (congrArg some zT10)⟩
  f57 := ⟨Tryd.f90.name, by decide, Tryd.func90.trans (congrArg some zT10)⟩
  t0 := Tryd.underlying0
  a0 := Tryd.isAgg0
  z0 := Tryd.sizeOf0
  v0 := Tryd.zeroValue0
  t3 := Tryd.underlying3
  a3 := Tryd.isAgg3
  z3 := Tryd.sizeOf3
  v3 := Tryd.zeroValue3
  t4 := Tryd.underlying4
  a4 := Tryd.isAgg4
  z4 := Tryd.sizeOf4
  v4 := Tryd.zeroValue4
  t5 := Tryd.underlying5
  a5 := Tryd.isAgg5
  z5 := Tryd.sizeOf5
  v5 := Tryd.zeroValue5
  t9 := Tryd.underlying9
  a9 := Tryd.isAgg9
  z9 := Tryd.sizeOf9
  v9 := Tryd.zeroValue9
  t22 := Tryd.underlying40
  a22 := Tryd.isAgg40
  z22 := Tryd.sizeOf40
  v22 := Tryd.zeroValue40
  t25 := Tryd.underlying89
  a25 := Tryd.isAgg89
  z25 := Tryd.sizeOf89
  v25 := Tryd.zeroValue89
  t39 := Tryd.underlying86
  a39 := Tryd.isAgg86
  z39 := Tryd.sizeOf86
  v39 := Tryd.zeroValue86
  t45 := Tryd.underlying99
  a45 := Tryd.isAgg99
  z45 := Tryd.sizeOf99
  v45 := Tryd.zeroValue99
  t46 := Tryd.underlying100
  a46 := Tryd.isAgg100
  z46 := Tryd.sizeOf100
  v46 := Tryd.zeroValue100
  t50 := Tryd.underlying83
  a50 := Tryd.isAgg83
  z50 := Tryd.sizeOf83
  v50 := Tryd.zeroValue83
  t53 := Tryd.underlying106
  a53 := Tryd.isAgg106
  z53 := Tryd.sizeOf106
  v53 := Tryd.zeroValue106
  t55 := Tryd.underlying108
  a55 := Tryd.isAgg108
  z55 := Tryd.sizeOf108
  v55 := Tryd.zeroValue108
  t66 := Tryd.underlying116
  a66 := Tryd.isAgg116
  z66 := Tryd.sizeOf116
  v66 := Tryd.zeroValue116
  t70 := Tryd.underlying120
  a70 := Tryd.isAgg120
  z70 := Tryd.sizeOf120
  v70 := Tryd.zeroValue120
  t76 := Tryd.underlying131
  a76 := Tryd.isAgg131
  z76 := Tryd.sizeOf131
  v76 := Tryd.zeroValue131
  t77 := Tryd.underlying132
  a77 := Tryd.isAgg132
  z77 := Tryd.sizeOf132
  v77 := Tryd.zeroValue132 }
def sortPair_ren : Go.Shelf.Ren := ⟨fun | 6 => 12 | 15 => 30 | 14 => 29 | 28 => 53 | 29 => 54 | 20 => 45 | 21 => 46 | 22 => 47 | 23 => 48 | 24 => 49 | 25 => 50 | 26 => 51 | 27 => 52 | 46 => 65 | 47 => 66 | 48 => 67 | 49 => 68 | 50 => 69 | 57 => 82 | n => n, fun | 22 => 49 | 24 => 51 | 25 => 54 | 3 => 3 | 39 => 86 | 0 => 0 | 53 => 106 | 55 => 108 | 4 => 4 | 46 => 100 | 45 => 99 | 50 => 83 | 5 => 5 | 9 => 9 | 66 => 116 | 70 => 120 | 76 => 131 | 77 => 132 | n => n, fun | n => n⟩
theorem sortPair : Go.Proofs.SlLaysF0.n6 Tryd.prog sortPair_ren := {
  mixed := by kernel_rfl
  f6 := ⟨Tryd.f12.name, by decide, Tryd.func12.trans (congrArg some zT10)⟩
  f14 := ⟨Tryd.f29.name, by decide, Tryd.func29.trans (congrArg some zT10)⟩
  f15 := Tryd.func30.trans (congrArg some zT10)
  f20 := ⟨Tryd.f45.name, by decide, Tryd.func45.trans (congrArg some zT10)⟩
  f21 := ⟨Tryd.f46.name, by decide, Tryd.func46.trans (congrArg some zT10)⟩
  f22 := ⟨Tryd.f47.name, by decide, Tryd.func47.trans (congrArg some zT10)⟩
  f23 := ⟨Tryd.f48.name, by decide, Tryd.func48.trans (congrArg some zT10)⟩
  f24 := ⟨Tryd.f49.name, by decide, Tryd.func49.trans (congrArg some zT10)⟩
  f25 := ⟨Tryd.f50.name, by decide, Tryd.func50.trans (congrArg some zT10)⟩
  f26 := ⟨Tryd.f51.name, by decide, Tryd.func51.trans (congrArg some zT10)⟩
  f27 := ⟨Tryd.f52.name, by decide, Tryd.func52.trans (congrArg some zT10)⟩
  f28 := Tryd.func53.trans (congrArg some zT10)
  f29 := Tryd.func54.trans (congrArg some zT10)
  f46 := ⟨Tryd.f65.name, by decide, Tryd.func65.trans (congrArg some zT10)⟩
  f47 := Tryd.func66.trans (congrArg some zT10)
  f48 := Tryd.func67.trans (congrArg some zT10)
  f49 := ⟨Tryd.f68.name, by decide, Tryd.func68.trans (congrArg some zT10)⟩
  f50 := ⟨Tryd.f69.name, by decide, Tryd.func69.trans (congrArg some zT10)⟩
  f57 := ⟨Tryd.f82.name, by decide, Tryd.func82.trans (congrArg some zT10)⟩
  t0 := Tryd.underlying0
  a0 := Tryd.isAgg0
  z0 := Tryd.sizeOf0
  v0 := Tryd.zeroValue0
  t3 := Tryd.underlying3
  a3 := Tryd.isAgg3
  z3 := Tryd.sizeOf3
  v3 := Tryd.zeroValue3
  t4 := Tryd.underlying4
  a4 := Tryd.isAgg4
  z4 := Tryd.sizeOf4
  v4 := Tryd.zeroValue4
  t5 := Tryd.underlying5
  a5 := Tryd.isAgg5
  z5 := Tryd.sizeOf5
  v5 := Tryd.zeroValue5
  t9 := Tryd.underlying9
  a9 := Tryd.isAgg9
  z9 := Tryd.sizeOf9
  v9 := Tryd.zeroValue9
  t22 := Tryd.underlying49
  a22 := Tryd.isAgg49
  z22 := Tryd.sizeOf49
  v22 := Tryd.zeroValue49
  t25 := Tryd.underlying54
  a25 := Tryd.isAgg54
  z25 := Tryd.sizeOf54
  v25 := Tryd.zeroValue54
  t39 := Tryd.underlying86
  a39 := Tryd.isAgg86
  z39 := Tryd.sizeOf86
  v39 := Tryd.zeroValue86
  t45 := Tryd.underlying99
  a45 := Tryd.isAgg99
  z45 := Tryd.sizeOf99
  v45 := Tryd.zeroValue99
  t46 := Tryd.underlying100
  a46 := Tryd.isAgg100
  z46 := Tryd.sizeOf100
  v46 := Tryd.zeroValue100
  t50 := Tryd.underlying83
  a50 := Tryd.isAgg83
  z50 := Tryd.sizeOf83
  v50 := Tryd.zeroValue83
  t53 := Tryd.underlying106
  a53 := Tryd.isAgg106
  z53 := Tryd.sizeOf106
  v53 := Tryd.zeroValue106
  t55 := Tryd.underlying108
  a55 := Tryd.isAgg108
  z55 := Tryd.sizeOf108
  v55 := Tryd.zeroValue108
  t66 := Tryd.underlying116
  a66 := Tryd.isAgg116
  z66 := Tryd.sizeOf116
  v66 := Tryd.zeroValue116
  t70 := Tryd.underlying120
  a70 := Tryd.isAgg120
  z70 := Tryd.sizeOf120
  v70 := Tryd.zeroValue120
  t76 := Tryd.underlying131
  a76 := Tryd.isAgg131
  z76 := Tryd.sizeOf131
  v76 := Tryd.zeroValue131
  t77 := Tryd.underlying132
  a77 := Tryd.isAgg132
  z77 := Tryd.sizeOf132
  v77 := Tryd.zeroValue132 }
def c3 (x y : Int) : Int := if x < y then -1 else if y < x then 1 else 0
theorem cmp_at (x y : Int) (w : World) : Calls Tryd.prog 33 #[.int .i64 x, .int .i64 y] w fun e w' => e = .returned (.int .i64 (c3 x y)) ∧ w' = w := by
  have nan : ∀ (x : Int) (w : World), Calls Tryd.prog 56 #[.int .i64 x] w fun e w' => e = .returned (.bool false) ∧ w' = w := by
    intro x w
    go_enter Tryd.func56, Tryd.ntmps56
    go_wp2
    go_ret
    exact ⟨by simp, rfl⟩
  unfold c3
  by_cases h1 : x < y
  · rw [if_pos h1]
    go_enter Tryd.func33, Tryd.ntmps33
    go_wp2_with (go_at_call 56; refine (nan _ _).mono ?_; rintro e w1 ⟨rfl, rfl⟩)
    go_ret
    exact ⟨rfl, rfl⟩
  rw [if_neg h1]
  by_cases h2 : y < x
  · rw [if_pos h2]
    go_enter Tryd.func33, Tryd.ntmps33
    go_wp2_with (go_at_call 56; refine (nan _ _).mono ?_; rintro e w1 ⟨rfl, rfl⟩)
    go_ret
    exact ⟨rfl, rfl⟩
  rw [if_neg h2]
  go_enter Tryd.func33, Tryd.ntmps33
  go_wp2_with (go_at_call 56; refine (nan _ _).mono ?_; rintro e w1 ⟨rfl, rfl⟩)
  go_ret
  exact ⟨rfl, rfl⟩
def Row4 (w : World) (b : Nat) (l : List Int) : Prop := ∀ (k : Nat) (x : Int), l[k]? = some x → w.cell? ⟨b, k, none⟩ = some (.int .i64 x)
section
variable {α : Type} (e : α → Int × Int)
def enc2 (x : α) : List Value := [.int .i64 (e x).1, .int .i64 (e x).2]
abbrev eV2 (x : α) : List V := [.i (e x).1, .i (e x).2]
theorem enc2_get [Inhabited α] (l : List α) (j : Nat) (h : j < l.length * 2) : (l.flatMap (eV2 e))[j]? = some (V.d (.p ((enc2 e l.toArray[j / 2]!)[j % 2]!))) := by
  induction l generalizing j with
  | nil => simp at h
  | cons a l ih =>
    rw [List.flatMap_cons]
    match j, h with
    | 0, _ => rfl
    | 1, _ => rfl
    | j + 2, h =>
      simp only [List.length_cons] at h
      have h2 := ih j zT13
      rw [show (eV2 e a ++ l.flatMap (eV2 e))[j + 2]? = (l.flatMap (eV2 e))[j]? from rfl, h2]
      have e1 : (j + 2) / 2 = j / 2 + 1 := by omega
      have e2 : (j + 2) % 2 = j % 2 := by omega
      rw [e1, e2]
      have h3 : j / 2 < l.length := by omega
      simp [h3]
theorem enc2_len (l : List α) : (l.flatMap (eV2 e)).length = l.length * 2 := by
  induction l with
  | nil => rfl
  | cons a l ih => rw [List.flatMap_cons, List.length_append, ih]; simp; omega
@[simp] theorem hasL_eV2 (r : Nat) (l : List α) : V.hasL r (l.flatMap (eV2 e)) = false := hasL_flat r l fun x => [D.p (.int .i64 (e x).1), D.p (.int .i64 (e x).2)]
/-- What is known of a sort of rows of two numbers. -/
structure Srt2 [Inhabited α] (P : Program) (f gf : FuncId) (res : List α → List α) : Prop where
  run : ∀ (blk cap : Nat) (d : Array α) (w : World), HoldsK (enc2 e) 2 w blk 0 d → blk < w.heap.size → d.size < 4611686018427387904 →
    Calls P f #[.slice (some ⟨blk, 0, none⟩) d.size cap, .func (.func gf) #[] #[]] w fun e' w' => e' = .returned (.tuple #[]) ∧ ∃ n os, w' = sortWorldK (enc2 e) 2 w blk 0 n (res d.toList).toArray os
  len : ∀ l, (res l).length = l.length
end
section
variable {c : Cx} {s : S} {o : Oper} {α : Type} [Inhabited α] {e : α → Int × Int}
theorem st_sort2 {f gf : FuncId} {fn : Func} {code : Code} {nn : Nat} {rs : List ResultVar} {res : List α → List α} {fx : Operand} {xs : Array Operand} {tys : Array TypeId} {r n : Nat} {fl : Bool} {ty : TypeId} {l : List α} (hf : Is c.P f fn code nn rs) (hS : Srt2 e c.P f gf res)
    (ho : o.op = .call { callee := .value fx, args := xs, argTypes := tys }) (hfx : s.ev fx = some (.fn f [])) (hargs : xs.toList.map s.ev = [.own r 2 n fl, .fn gf []].map some) (hr : fnd s.H r = some ⟨ty, l.flatMap (eV2 e), fl, 2⟩) (hn : l.length = n) (hnb : n ≤ 1000000) (hpos : 0 < n) (hd : dok s o = true) :
    Step c o s (fun s' => s' = ({ s with H := (r, ⟨ty, (res l).flatMap (eV2 e), fl, 2⟩) :: s.H } : S).put o.dst (.tup [])) := by
  intro g a w hs K Q hK
  obtain ⟨cs, hfv, hcl0, _⟩ := fn_eval hs hfx
  obtain rfl : cs = [] := by cases cs with | nil => rfl | cons => simp at hcl0
  obtain ⟨hal, hav⟩ := args_eval hs hargs
  obtain ⟨x, y, hxy⟩ : ∃ x y, xs.toList.map a.eval = [x, y] := by
    match h : xs.toList.map a.eval, hal with
    | [x, y], _ => exact ⟨x, y, rfl⟩
  rw [hxy] at hav
  have hx := hav 0 _ x rfl rfl
  have hy := hav 1 _ y rfl rfl
  have hrun : (execOp a.eval o).run c.P w = .ok (.enter f #[x, y]) w := by
    rw [exec_call (caps := []) hf ho hfv, hxy]; rfl
  have hres0 : ∀ w', Sim c g { s with H := (r, ⟨ty, (res l).flatMap (eV2 e), fl, 2⟩) :: s.H } a w' → K (a.put o.dst (.tuple #[])) w' := fun w' h =>
    hK g _ _ w' rfl (h.put o.dst (dok_spec (s := { s with H := (r, ⟨ty, (res l).flatMap (eV2 e), fl, 2⟩) :: s.H }) hd) (.tup [] [] rfl (by intro j u z h1; simp at h1)))
  unfold Oper.wp
  rw [hrun]
  simp only [Oper.upon]
  have hfl : fl = false := by
    cases fl with
    | false => rfl
    | true =>
      have h1 := congrArg List.length (hs.nul r _ hr rfl)
      simp only [enc2_len, List.length_nil] at h1
      omega
  subst hfl
  obtain ⟨cap, hx1, hcap⟩ : ∃ cap, x = .slice (some ⟨(g r).1, 0, none⟩) n cap ∧ n ≤ (g r).2 := by
    cases hx with
    | own _ _ _ hn' hc' => exact ⟨_, rfl, hn'⟩
  subst hx1
  obtain rfl : y = .func (.func gf) #[] #[] := by
    cases hy with
    | fn _ _ cs' hlen' h' =>
      match cs', hlen' with
      | [], _ => rfl
  obtain ⟨arr, ha, hsz, hc⟩ := hs.obj r _ hr rfl
  simp only at ha hsz hc
  have hsz := hsz zT12
  have hlt : (g r).1 < w.heap.size := (Array.getElem?_eq_some_iff.1 ha).1
  have hH : Sort.HoldsK (enc2 e) 2 w (g r).1 0 l.toArray := by
    intro j hj
    rw [Sort.size_flatK] at hj
    have hj' : j < l.length * 2 := by simpa using hj
    obtain ⟨z, h4, h5⟩ := hc j _ (enc2_get e l j hj')
    have hz : z = (enc2 e l.toArray[j / 2]!)[j % 2]! := by
      cases h5 with
      | d _ _ h6 => cases h6; rfl
    refine ⟨?_, ?_⟩
    · rw [Sort.get_flatK _ _ _ _ (by simpa using hj')]
      simp only [World.cell?, ha, Option.isSome_none, Bool.false_eq_true, if_false, Nat.zero_add, id]
      rw [h4, hz]
    simp [World.frozen?, ha]
  have hn2 : n = l.toArray.size := by simp [hn]
  have key := hS.run (g r).1 cap l.toArray w hH hlt (by simp; omega)
  rw [← hn2] at key
  refine key.mono ?_
  rintro e' w' ⟨rfl, m, os, rfl⟩
  refine hres0 _ ?_
  have hrl := hS.len l
  refine Sim.move (w := Sort.putRowK (enc2 e) 2 (Sort.ahead w m) (g r).1 0 (res l).toArray) ?_ ?_
  · refine Sim.setRow hs (row := ⟨ty, l.flatMap (eV2 e), false, 2⟩) (row' := ⟨ty, (res l).flatMap (eV2 e), false, 2⟩) (arr' := Sort.putCells id 0 (Sort.flatK (enc2 e) 2 (res l).toArray) arr) hr rfl rfl rfl rfl ?_ ?_ ?_ rfl rfl rfl ?_ ?_
    · simp only [Sort.putRowK, Sort.putRow, Sort.mapBlock, Sort.ahead, Array.getElem?_modify, if_true, ha, Option.map_some, Sort.onCells]
    · intro b hb
      simp only [Sort.putRowK, Sort.putRow, Sort.mapBlock, Sort.ahead, Array.getElem?_modify]
      rw [if_neg (fun e => hb e.symm)]
    · simp [Sort.putRowK, Sort.putRow, Sort.mapBlock, Sort.ahead]
    · intro arr0 ty0 h0
      rw [ha] at h0
      simp only [Option.some.injEq, Obj.cells.injEq, and_true] at h0
      obtain ⟨rfl, _⟩ := h0
      simp [Sort.putCells]
    intro j v hv
    simp only at hv
    have hj : j < (res l).length * 2 := by
      rw [← enc2_len e]
      exact (List.getElem?_eq_some_iff.1 hv).1
    rw [enc2_get e _ _ hj] at hv
    simp only [Option.some.injEq] at hv
    subst hv
    have hja : j < arr.size := by omega
    refine ⟨_, ?_, .d _ _ (.p _)⟩
    simp only [Sort.putCells, Array.getElem?_mapIdx]
    rw [Array.getElem?_eq_getElem hja, Option.map_some, if_pos (by simp; omega), Nat.sub_zero, Sort.get_flatK _ _ _ _ (by simpa using hj)]
    rfl
  exact ⟨rfl, rfl, rfl, by simp [Sort.grow, sortWorldK], fun k hk => by
    unfold sortWorldK Sort.grow
    simp only
    rw [Array.getElem?_append_left hk]⟩
end
/-- The order of parts: by their states. f tells what is left for each state. -/
def eP (f : Nat → Int) (q : Nat) : Int × Int := ((q : Int), f q)
theorem cmpPart_at (x y a b : Int) (w : World) : Calls Tryd.prog 32 #[.agg #[.int .i64 x, .int .i64 a], .agg #[.int .i64 y, .int .i64 b]] w fun e w' => e = .returned (.int .i64 (c3 x y)) ∧ ∃ q os', w' = grow (w.drewN q) os' := by
  go_enter Tryd.func32, Tryd.ntmps32
  go_wp2_with (go_at_call 33; refine (cmp_at _ _ _).mono ?_; rintro e w1 ⟨rfl, rfl⟩)
  go_ret
  refine ⟨rfl, ?_⟩
  simp only [Sort.alloc_eq_grow, Sort.grow_grow]
  exact ⟨0, _, rfl⟩
theorem lt_c3 : ltOf (fun x y : Nat => c3 (x : Int) (y : Int)) = fun x y => decide (x < y) := by
  funext x y
  unfold ltOf c3
  rw [Bool.eq_iff_iff, decide_eq_true_iff, decide_eq_true_iff]
  simp only
  split
  · omega
  split <;> omega
theorem swo_nat : SWO (fun x y : Nat => decide (x < y)) := ⟨fun a => by simp, fun a b x h1 h2 => by simp at h1 h2 ⊢; omega, fun a b x h1 h2 => by simp at h1 h2 ⊢; omega⟩
theorem enc2_len2 {α : Type} (e : α → Int × Int) (x : α) : (enc2 e x).length = 2 := rfl
theorem enc2_one {α : Type} (e : α → Int × Int) (x : α) : ∀ v ∈ enc2 e x, v.oneCell' = true := by
  intro v hv
  simp only [enc2, List.mem_cons, List.not_mem_nil, or_false] at hv
  rcases hv with rfl | rfl <;> rfl
theorem ent_sp (args : Array Value) (w : World) : (callFunc 32 args).run Tryd.prog w = .ok (.enter 32 args) w := enters_of Tryd.func32 zT10 rfl args w
theorem ent_mp (args : Array Value) (w : World) : (callFunc 13 args).run Tryd.prog w = .ok (.enter 13 args) w := enters_of Tryd.func13 zT10 rfl args w
theorem sortPart_at (f : Nat → Int) (blk cap : Nat) (d : Array Nat) (w : World) (hH : HoldsK (enc2 (eP f)) 2 w blk 0 d) (hblk : blk < w.heap.size) (hsz : d.size < 4611686018427387904) : Calls Tryd.prog 31 #[.slice (some ⟨blk, 0, none⟩) d.size cap, .func (.func 32) #[] #[]] w fun e w' => e = .returned (.tuple #[]) ∧ ∃ n os, w' = sortWorldK (enc2 (eP f)) 2 w blk 0 n (leN d.toList).toArray os := by
  have hO : SWO (ltOf (fun x y : Nat => c3 (x : Int) (y : Int))) := by rw [lt_c3]; exact swo_nat
  have hcmp : CmpLays Tryd.prog 32 #[] (enc2 (eP f)) 2 (fun x y : Nat => c3 (x : Int) (y : Int)) blk 0 d.size w := fun m os dk hdk x y => cmpPart_at (x : Int) (y : Int) (f x) (f y) _
  have hlim : Lib.bitLen d.size < 4611686018427387904 := Nat.lt_of_le_of_lt (Lib.bitLen_le d.size 62 zT13 zT13) zT13
  have hp := AnyQ.pdqsortCmpFunc_all (P := Tryd.prog) (ρ := sortPart_ren) sortPart 2 Tryd.isAgg39 Tryd.sizeOf39 (enc2 (eP f)) (fun x y : Nat => c3 (x : Int) (y : Int)) 32 #[] hO blk 0 cap d w ent_sp hcmp ⟨enc2_len2 _, enc2_one _, hH, hblk⟩ (d.size + 1) 0 d.size (Lib.bitLen d.size) d w zT13 rfl (SWK.start hH) (Nat.zero_le _) (Nat.le_refl _) hsz hlim (Or.inl rfl)
  have hl : Calls Tryd.prog 30 #[.int .u64 (d.size : Int)] w fun e w' => e = .returned (.int .i64 (Lib.bitLen d.size : Nat)) ∧ w' = w := by
    have h := Any.bits_Len (SlLaysF0.n15.bits (P := Tryd.prog) (ρ := sortPair_ren) { sortPair with }) (d.size : Int) w zT13 zT13
    rwa [Int.toNat_natCast] at h
  have wr : IntKind.u64.wrap (d.size : Int) = d.size := by simp [IntKind.wrap, IntKind.bits, IntKind.signed]; omega
  have hs := Sort.pdq_sorts (ltOf (fun x y : Nat => c3 (x : Int) (y : Int))) hO d 0 d.size (Lib.bitLen d.size) true true (Nat.zero_le _) (Nat.le_refl _) (Or.inl rfl)
  have hu := Sort.sorted_unique_holds (lt := ltOf (fun x y : Nat => c3 (x : Int) (y : Int))) hO (fun x y h1 h2 => by rw [lt_c3] at h1 h2; simp at h1 h2; omega) d _ hs.1 hs.2
  rw [lt_c3] at hu hp
  have hu2 : Sort.pdq (fun x y : Nat => decide (x < y)) d 0 d.size (Lib.bitLen d.size) true true = (leN d.toList).toArray := by
    have h := congrArg List.toArray hu
    rw [Array.toArray_toList] at h
    exact h
  rw [hu2] at hp
  clear hH hcmp hs hu hu2
  generalize (leN d.toList).toArray = R at hp ⊢
  have hp : Calls Tryd.prog 55 _ w _ := hp
  go_enter Tryd.func31, Tryd.ntmps31
  go_wp2_with (first | (go_at_call 30; refine hl.mono ?_; rintro e w' ⟨rfl, rfl⟩) | (go_at_call 55; refine hp.mono ?_; rintro e w' ⟨rfl, n, os, rfl⟩))
  go_end0
  exact ⟨rfl, n, os, rfl⟩
theorem srtPart (f : Nat → Int) : Srt2 (eP f) Tryd.prog 31 32 leN := ⟨sortPart_at f, fun l => List.length_mergeSort _⟩
theorem seen_perm {n : Nat} {seen : List Nat} (h1 : seen.Nodup) (h2 : ∀ j ∈ seen, j < n) (h3 : ∀ j, j < n → j ∈ seen) : seen.Perm (List.range n) :=
  (List.perm_ext_iff_of_nodup h1 List.nodup_range).2 fun j => ⟨fun h => List.mem_range.2 (h2 j h), fun h => h3 j (List.mem_range.1 h)⟩
theorem seen_map {α β : Type} (f : α → β) (x0 : α) (M : List α) {seen : List Nat} (h1 : seen.Nodup) (h2 : ∀ j ∈ seen, j < M.length) (h3 : ∀ j, j < M.length → j ∈ seen) : (seen.map fun j => f (M.getD j x0)).Perm (M.map f) := by
  have h := (seen_perm h1 h2 h3).map (fun j => f (M.getD j x0))
  have e : (List.range M.length).map (fun j => f (M.getD j x0)) = M.map f := by
    refine List.ext_getElem? fun i => ?_
    by_cases hi : i < M.length
    · rw [List.getElem?_map, List.getElem?_map, List.getElem?_range hi, List.getElem?_eq_getElem hi]
      simp [List.getD_eq_getElem?_getD, List.getElem?_eq_getElem hi]
    rw [List.getElem?_eq_none (by simp; omega), List.getElem?_eq_none (by simp; omega)]
  rw [← e]; exact h
theorem seen_snoc {n j : Nat} {seen : List Nat} (h1 : seen.Nodup) (h2 : ∀ i ∈ seen, i < n) (hj : j < n) (hns : j ∉ seen) : (seen ++ [j]).Nodup ∧ ∀ i ∈ seen ++ [j], i < n := by
  refine ⟨?_, fun i hi => ?_⟩
  · rw [List.nodup_append]
    exact ⟨h1, by simp, fun a ha b hb => by simp at hb; subst hb; rintro rfl; exact hns ha⟩
  rcases List.mem_append.1 hi with hi | hi
  · exact h2 i hi
  simp only [List.mem_singleton] at hi; subst hi; exact hj
theorem seen_len {n : Nat} {seen : List Nat} (h1 : seen.Nodup) (h2 : ∀ i ∈ seen, i < n) : seen.length ≤ n := nodup_len h1 h2
theorem mpsL_eV2 {α : Type} (e : α → Int × Int) (l : List α) : V.mpsL (l.flatMap (eV2 e)) = false := mpsL_flat _ (fun _ => rfl) l
theorem itsL_eV2 {α : Type} (e : α → Int × Int) (l : List α) : V.itsL (l.flatMap (eV2 e)) = false := itsL_flat _ (fun _ => rfl) l
theorem LjI.row {n : Nat} {lj : List (Int × Int)} {x : List Nat} (h : LjI n lj x) {j : Nat} {t w : Int} (hj : lj[j]? = some (t, w)) : ∃ q v : Nat, t = (q : Int) ∧ w = (v : Int) ∧ q < n ∧ v ≤ 10000000000000 ∧ mnL x ≤ v ∧ (mget lj (q : Int)).getD 0 = (v : Int) := by
 have hm := List.mem_of_getElem? hj
 obtain ⟨q, v, rfl, rfl, hq, hx, hv⟩ := h.mem.1 hm
 have hvx := List.mem_of_getElem? hx
 refine ⟨q, v, rfl, rfl, hq, (h.bd v hvx).resolve_left hv, (mnL_spec _ x rfl).2.2 v hvx, ?_⟩
 rw [(mget_mem h.nd).2 hm]
 rfl
theorem LjI.short {n : Nat} {lj : List (Int × Int)} {x : List Nat} (h : LjI n lj x) : lj.length ≤ n := by
 have h1 : (lj.map fun y => y.1.toNat).Nodup := by
  have e : (lj.map fun y => y.1.toNat) = (lj.map (·.1)).map Int.toNat := by rw [List.map_map]; rfl
  rw [e]
  refine List.pairwise_map.2 (List.Pairwise.imp_of_mem ?_ h.nd)
  intro a b ha hb hab e
  obtain ⟨⟨t, w⟩, hm, rfl⟩ := List.mem_map.1 ha
  obtain ⟨⟨t', w'⟩, hm', rfl⟩ := List.mem_map.1 hb
  obtain ⟨q, v, rfl, rfl, _⟩ := h.mem.1 hm
  obtain ⟨q', v', rfl, rfl, _⟩ := h.mem.1 hm'
  simp only [Int.toNat_natCast] at e
  exact hab (by simp only; omega)
 have h2 : ∀ i ∈ lj.map fun y => y.1.toNat, i < n := by
  intro i hi
  obtain ⟨⟨t, w⟩, hm, rfl⟩ := List.mem_map.1 hi
  obtain ⟨q, v, rfl, rfl, hq, _⟩ := h.mem.1 hm
  simpa using hq
 have := seen_len h1 h2
 simpa using this
theorem am_settle (lj : List (Int × Int)) (x : List Nat) (n : Nat) (h60 : n ≤ 60) (hI : LjI n lj x) : Fn Tryd.prog 15 [.d (.mp (mrows vI lj))] (fun v => v = .tup [.i ((mnL x : Nat) : Int), .d (ptsD (toP (sbL x (mnL x))))]) := by
 obtain ⟨ll, hll⟩ : ∃ ll, lj.length = ll := ⟨_, rfl⟩
 have hl60 : ll ≤ 60 := by have := hI.short; omega
 have hpos : 0 < ll := by have := List.length_pos_iff.2 hI.ne; omega
 have hml : (mrows vI lj).length = ll := by simp [mrows, hll]
 obtain ⟨m, hm⟩ : ∃ m, mnL x = m := ⟨_, rfl⟩
 have hleast := fun A => (hI.least (A := A))
 have hstates := fun A => (hI.states (A := A))
 have hparts := hI.parts
 have hrow := fun j t w => (hI.row (j := j) (t := t) (w := w))
 simp only [hm] at hleast hstates hparts hrow
 rw [hm]
 generalize hTP : toP (sbL x m) = TP at hstates hparts
 refine Fn.intro (n := 43) ⟨Tryd.func15, rfl, rfl, rfl, rfl⟩ zT8 zT14 fun w0 out => ?_
 apply AW.sr
 iterate 2 refine AL.z ?_
 apply AL.nil
 try simp only [thenS, S.put, enum, List.nil_append, List.cons_append, List.append_nil, Nat.zero_add, Nat.reduceAdd]
 apply AW.sr
 refine AL.z ?_
 apply AL.nil
 try simp only [nd]
 apply AW.seq
 apply AW.sr
 refine AL.z ?_
 refine AL.sm rfl (sm_rangeMD 11 511 Tryd.underlying57 rfl rfl rfl rfl zT12 rfl) ?_
 apply AL.nil
 try simp only [nd, setL, V.cs, nz, Nat.reduceAdd, nm, ns]
 apply AW.block
 refine AW.loopN (fun μ s' => ∃ (seen : List Nat) (b : Int), μ + seen.length = ll ∧ seen.Nodup ∧ (∀ j ∈ seen, j < ll) ∧ b = mnI (seen.map fun j => (lj.getD j (0, 0)).2) ∧ s' = ⟨43, [(0, .d (.mp (mrows vI lj))), (4, .i b), (11, .mit 11 511 w0.heap.size (mrows vI lj) seen)], [], []⟩) ⟨ll, _, ?_, [], -1, rfl, List.nodup_nil, zT14, rfl, rfl⟩ ?_
 ·exact Less.a0
 rintro μ s' ⟨seen, b, hμ, hnd, hsj, hb, rfl⟩
 by_cases hall : ∀ j, j < (mrows vI lj).length → j ∈ seen
 ·have hbm : b = (m : Int) := by
   rw [hb]
   exact (hleast _ (seen_map (·.2) (0, 0) lj hnd (by rw [hll]; exact hsj) fun j hj => hall j zT13)).1
  subst hbm
  apply AW.sr
  refine AL.rd rfl rfl (rd_nextEndM rfl rfl zT11) ?_
  refine AL.z ?_
  apply AL.nil
  try simp only [nd]
  apply AW.seq
  refine AW.condF rfl ?_
  refine AW.exit ?_
  try simp only [thenS, inBlockS, ↓reduceIte, Nat.reduceEqDiff]
  apply AW.sr
  refine AL.z ?_
  apply AL.nil
  try simp only [nd]
  apply AW.seq
  apply AW.seq
  refine AW.adopt 7 901 2 39 rfl (by simp [S.clean, V.has, V.hasL]) ?_
  clear hall hsj hnd hμ hb
  apply AW.region
  refine AL.z ?_
  refine AL.sm rfl (sm_rangeMD 25 525 Tryd.underlying57 rfl rfl rfl rfl zT12 rfl) ?_
  apply AL.nil
  try simp only [nd, setL, V.cs, nz, Nat.reduceAdd, nm, ns]
  apply AW.block
  refine AW.loopN (fun μ s' => ∃ (seen : List Nat) (A : List Nat) (la : Nat), μ + la = ll ∧ seen.length = la ∧ seen.Nodup ∧ (∀ j ∈ seen, j < ll) ∧ A = (seen.map fun j => (lj.getD j (0, 0)).1.toNat) ∧ A.length = la ∧ s' = ⟨43, [(4, .i (m : Int)), (7, .own 901 2 la (decide (la = 0))), (25, .mit 25 525 w0.heap.size (mrows vI lj) seen)], [(901, ⟨39, A.flatMap (eV2 (eP fun q => (mget lj (q : Int)).getD 0 - (m : Int))), decide (la = 0), 2⟩)], []⟩) ⟨ll, _, ?_, [], [], 0, rfl, rfl, List.nodup_nil, zT14, rfl, rfl, rfl⟩ ?_
  ·exact Less.a0
  rintro μ s' ⟨seen, A, la, hμ, hsl, hnd, hsj, hA, hAl, rfl⟩
  have hfl : (A.flatMap (eV2 (eP fun q => (mget lj (q : Int)).getD 0 - (m : Int)))).length = la * 2 := by rw [enc2_len, hAl]
  by_cases hall : ∀ j, j < (mrows vI lj).length → j ∈ seen
  ·have hS := hstates A (by
    rw [hA]
    exact seen_map (fun y => y.1.toNat) (0, 0) lj hnd (by rw [hll]; exact hsj) fun j hj => hall j zT13)
   obtain rfl : la = ll := by
    have := (seen_perm hnd hsj fun j hj => hall j zT13).length_eq
    rw [List.length_range] at this
    omega
   have hsl2 : (leN A).length = la := by rw [(leN_perm A).length_eq, hAl]
   rw [← hS] at hparts
   have hrows : ((leN A).map fun q => [D.p (.int .i64 ((q : Nat) : Int)), D.p (.int .i64 ((mget lj (q : Int)).getD 0 - (m : Int)))]) = TP.map ptD := by
    rw [← hparts.1, List.map_map]
    refine List.map_congr_left fun q hq => ?_
    simp only [Function.comp, ptD, Int.toNat_of_nonneg (hparts.2 q hq)]
   clear hS hparts hleast hstates hrow
   apply AW.sr
   refine AL.rd rfl rfl (rd_nextEndM rfl rfl zT11) ?_
   refine AL.z ?_
   apply AL.nil
   try simp only [nd]
   apply AW.seq
   refine AW.condF rfl ?_
   refine AW.exit ?_
   try simp only [thenS, inBlockS, ↓reduceIte, Nat.reduceEqDiff]
   apply AW.sr
   refine AL.z ?_
   refine AL.st rfl (st_sort2 ⟨Tryd.func31, rfl, rfl, rfl, rfl⟩ (srtPart fun q => (mget lj (q : Int)).getD 0 - (m : Int)) rfl rfl rfl rfl hAl zT13 hpos rfl) ?_
   try dsimp only
   apply AL.nil
   try simp only [nd, setL, V.cs, nz, Nat.reduceAdd, nm, ns]
   apply AW.seq
   refine AW.freeze 7 16 ((leN A).map fun q => [D.p (.int .i64 ((q : Nat) : Int)), D.p (.int .i64 ((mget lj (q : Int)).getD 0 - (m : Int)))]) rfl rfl rfl (by rw [List.length_map, hsl2]) zT13 (rowsF (enc := fun q : Nat => [D.p (.int .i64 ((q : Nat) : Int)), D.p (.int .i64 ((mget lj (q : Int)).getD 0 - (m : Int)))]) (sz := 2) (l := leN A) (fun _ => rfl) rfl) ?_
   rw [hrows]
   apply AW.region
   iterate 4 refine AL.z ?_
   apply AL.nil
   try simp only [nd]
   apply AW.ret
   exact ⟨[_, _], ⟨rfl, rfl, trivial⟩, rfl, by simp [tupOf, V.pure, V.has, V.hasL]⟩
  skip
  apply AW.sr
  (refine AL.nextN rfl rfl rfl rfl (by (simp [S.put, S.newObj, setL, V.cs, V.itsL, V.its, mpsL_eV2, itsL_eV2]; done)) rfl rfl rfl zT11 (fun j kv hj hns => ?_); simp only [S.put, List.map_cons, List.map_nil, upMI_d, upMI_ref, upMI_own, upMI_mp, upMI_junk, upMI_mit, upMI_tup2])
  refine AL.z ?_
  apply AL.nil
  try simp only [nd]
  apply AW.seq
  refine AW.condT rfl ?_
  apply AW.skip
  try simp only [thenS]
  apply AW.block
  apply AW.seq
  obtain ⟨⟨t, w⟩, hMj, rfl⟩ : ∃ y, lj[j]? = some y ∧ (vI y.1, vI y.2) = kv := by
   simp only [mrows, List.getElem?_map] at hj
   cases hMj : lj[j]? with
   | none => rw [hMj] at hj; cases hj
   | some y => rw [hMj] at hj; exact ⟨y, rfl, Option.some.inj hj⟩
  have hjM : j < ll := by rw [← hll]; exact (List.getElem?_eq_some_iff.1 hMj).1
  obtain ⟨hnd2, hsj2⟩ := seen_snoc hnd hsj hjM hns
  have hlen2 := seen_len hnd2 hsj2
  simp only [List.length_append, List.length_cons, List.length_nil, hsl] at hlen2
  obtain ⟨q, v, rfl, rfl, hq, hv1, hv2, hv3⟩ := hrow j t w hMj
  have hA2 : A ++ [q] = (seen ++ [j]).map fun j => (lj.getD j (0, 0)).1.toNat := by
   rw [List.map_append, ← hA]
   simp [List.getD_eq_getElem?_getD, hMj]
  have hE : eV2 (eP fun q => (mget lj (q : Int)).getD 0 - (m : Int)) q = [.i (q : Int), .i ((v : Int) - (m : Int))] := by simp only [eV2, eP, hv3]
  clear hall hleast hstates hparts hrow
  apply AW.region
  refine AL.rd rfl rfl (rd_entryM (vk := .i (q : Int)) (vv := .i (v : Int)) rfl rfl hj (fun _ _ _ => .d _ _ (.p _)) (fun _ _ _ => .d _ _ (.p _))) ?_
  iterate 4 refine AL.z ?_
  apply AL.nil
  try simp only [nd]
  apply AW.region
  iterate 5 refine AL.z ?_
  refine AL.rp rfl rfl (rp_build (vs := [(0, _), (1, _)]) (zs := [.d (.p (.int .i64 0)), .d (.p (.int .i64 0))]) pl39 inf39 rfl rfl rfl rfl) ?_
  refine AL.sm rfl (sm_slice (vs := [(0, _)]) (zs := [.d (.p (.int .i64 0)), .d (.p (.int .i64 0))]) 37 Tryd.underlying41 inf39 rfl rfl zT12 zT12 zT12 rfl rfl rfl rfl zT1 rfl rfl) ?_
  refine AL.st rfl (st_appendF Tryd.underlying41 inf39 rfl zT12 rfl rfl rfl rfl rfl rfl zT5 zT1 rfl rfl rfl rfl rfl rfl rfl zT12 zT13 zT13 rfl) ?_
  simp only [S.forget, S.put, S.newObj, junkIf, V.has, V.hasL, nh, hasL_flat, hasL_append, List.map_cons, List.map_nil, List.filter_cons, List.filter_nil, Nat.reduceBNe, Nat.reduceBEq, eq_self, bne_self_eq_false,  Bool.not_true, Bool.not_false, Bool.or_false, Bool.or_true, Bool.false_or, Bool.true_or, if_true, if_false, Bool.false_eq_true, ite_true, ite_false, ↓reduceIte, beq_self_eq_true, Nat.reduceEqDiff]
  refine AL.z ?_
  apply AL.nil
  try simp only [nd, setL, V.cs, nz, Nat.reduceAdd, nm, ns]
  refine ⟨μ - 1, _, ?_, ⟨seen ++ [j], A ++ [q], la + 1, by omega, by simp [hsl], hnd2, hsj2, hA2, by simp [hAl], rfl⟩, by omega⟩
  simp only [List.flatMap_append, List.flatMap_cons, List.flatMap_nil, List.append_nil, hE]
  exact Less.a0
 skip
 apply AW.sr
 (refine AL.nextN rfl rfl rfl rfl rfl rfl rfl rfl zT11 (fun j kv hj hns => ?_); simp only [S.put, List.map_cons, List.map_nil, upMI_d, upMI_ref, upMI_own, upMI_mp, upMI_junk, upMI_mit, upMI_tup2])
 refine AL.z ?_
 apply AL.nil
 try simp only [nd]
 apply AW.seq
 refine AW.condT rfl ?_
 apply AW.skip
 try simp only [thenS]
 apply AW.block
 apply AW.seq
 obtain ⟨⟨t, w⟩, hMj, rfl⟩ : ∃ y, lj[j]? = some y ∧ (vI y.1, vI y.2) = kv := by
  simp only [mrows, List.getElem?_map] at hj
  cases hMj : lj[j]? with
  | none => rw [hMj] at hj; cases hj
  | some y => rw [hMj] at hj; exact ⟨y, rfl, Option.some.inj hj⟩
 have hjM : j < ll := by rw [← hll]; exact (List.getElem?_eq_some_iff.1 hMj).1
 obtain ⟨hnd2, hsj2⟩ := seen_snoc hnd hsj hjM hns
 have hlen2 := seen_len hnd2 hsj2
 simp only [List.length_append, List.length_cons, List.length_nil] at hlen2
 have hb2 : mnI ((seen ++ [j]).map fun j => (lj.getD j (0, 0)).2) = if b < 0 ∨ w < b then w else b := by
  rw [List.map_append, List.map_cons, List.map_nil, mnI_snoc, ← hb]
  simp [List.getD_eq_getElem?_getD, hMj]
 clear hall hleast hstates hparts hrow hb
 by_cases c1 : b < 0
 ·rw [if_pos (.inl c1)] at hb2
  apply AW.region
  refine AL.rd rfl rfl (rd_entryM (vk := .i t) (vv := .i w) rfl rfl hj (fun _ _ _ => .d _ _ (.p _)) (fun _ _ _ => .d _ _ (.p _))) ?_
  iterate 2 refine AL.z ?_
  apply AL.nil
  try simp only [nd]
  apply AW.sr
  iterate 3 refine AL.z ?_
  refine AL.noV rfl rfl rfl rfl ?_
  refine AL.noV rfl rfl rfl rfl ?_
  refine AL.noV rfl rfl rfl rfl ?_
  refine AL.z ?_
  apply AL.nil
  try simp only [nd]
  refine AW.condT rfl ?_
  apply AW.region
  iterate 2 refine AL.z ?_
  apply AL.nil
  try simp only [nd]
  refine ⟨μ - 1, _, ?_, ⟨seen ++ [j], w, by simp; omega, hnd2, hsj2, hb2.symm, rfl⟩, by omega⟩
  exact Less.a0
 by_cases c2 : w < b
 ·rw [if_pos (.inr c2)] at hb2
  apply AW.region
  refine AL.rd rfl rfl (rd_entryM (vk := .i t) (vv := .i w) rfl rfl hj (fun _ _ _ => .d _ _ (.p _)) (fun _ _ _ => .d _ _ (.p _))) ?_
  iterate 2 refine AL.z ?_
  apply AL.nil
  try simp only [nd]
  apply AW.sr
  iterate 3 refine AL.z ?_
  iterate 3 refine AL.zy ?_
  refine AL.z ?_
  apply AL.nil
  try simp only [nd]
  refine AW.condT rfl ?_
  apply AW.region
  iterate 2 refine AL.z ?_
  apply AL.nil
  try simp only [nd]
  refine ⟨μ - 1, _, ?_, ⟨seen ++ [j], w, by simp; omega, hnd2, hsj2, hb2.symm, rfl⟩, by omega⟩
  exact Less.a0
 rw [if_neg (fun h => h.elim c1 c2)] at hb2
 apply AW.region
 refine AL.rd rfl rfl (rd_entryM (vk := .i t) (vv := .i w) rfl rfl hj (fun _ _ _ => .d _ _ (.p _)) (fun _ _ _ => .d _ _ (.p _))) ?_
 iterate 2 refine AL.z ?_
 apply AL.nil
 try simp only [nd]
 apply AW.sr
 iterate 3 refine AL.z ?_
 iterate 3 refine AL.zy ?_
 refine AL.z ?_
 apply AL.nil
 try simp only [nd]
 refine AW.condF rfl ?_
 apply AW.skip
 try simp only [thenS]
 refine ⟨μ - 1, _, ?_, ⟨seen ++ [j], b, by simp; omega, hnd2, hsj2, hb2.symm, rfl⟩, by omega⟩
 exact Less.a0
theorem or_at (bx n : Nat) (xs : List Int) (w : World) (hn1 : xs.length = n) (hn : n ≤ 4) (hx : Row4 w bx xs) :
    Calls Tryd.prog 14 #[.slice (some ⟨bx, 0, none⟩) n n] w fun e w' => e = .returned (.int .i64 (orI xs)) ∧ w' = w := by
  have HX := Lib.hid hx
  have H1 := Lib.hid hn1
  clear hx hn1
  go_enter Tryd.func14, Tryd.ntmps14
  go_wp2_with fail
  go_loopw [8] (fun i wr => ∃ k : Nat, k ≤ n ∧ i = .int .i64 k ∧ orI (xs.drop k) = orI xs ∧ wr = w) (fun i _ => n - (intOf i).toNat)
  case atStart => exact ⟨0, Nat.zero_le _, rfl, rfl, rfl⟩
  case round =>
    obtain ⟨k, hk, rfl, ht, rfl⟩ := hrel
    have HT := Lib.hid ht
    clear ht
    by_cases hlt : k < n
    · obtain ⟨x, hx⟩ : ∃ x, xs[k]? = some x := ⟨_, List.getElem?_eq_getElem (by rw [H1.out]; exact hlt)⟩
      have cx := HX.out k x hx
      have Hx := Lib.hid hx
      clear hx
      by_cases hz0 : x = 0
      · have Hs := Lib.hid (orI_step Hx.out hz0)
        subst hz0
        go_wp2_with fail
        go_roundw
        case rel => exact ⟨k + 1, by omega, by go_num, by rw [← Hs.out]; exact HT.out, by first | rfl | trivial⟩
        case measure => simp [intOf]; omega
      have He := Lib.hid ((orI_hit Hx.out hz0).symm.trans HT.out)
      go_wp2_with fail
      go_ret
      exact ⟨by rw [← He.out]; rfl, rfl⟩
    have He := Lib.hid ((orI_end (l := xs) (k := k) (by rw [H1.out]; omega)).symm.trans HT.out)
    go_wp2_with fail
    go_ret
    exact ⟨by rw [← He.out]; rfl, rfl⟩
structure Lab2 where
  i : Nat
  o : Nat
  hi : i ≤ 1000000000
  ho : o ≤ 1000000000
instance : Inhabited Lab2 := ⟨⟨0, 0, by omega, by omega⟩⟩
def eL (x : Lab2) : Int × Int := ((x.i : Int), (x.o : Int))
def cfL (x y : Lab2) : Int := orI [(x.i : Int) - (y.i : Int), (x.o : Int) - (y.o : Int)]
theorem row4_two (w : World) (b : Nat) (u v : Int) (t : TypeId) (f : Nat × Nat) (hb : b = w.heap.size) : Row4 (w.alloc (.cells #[.int .i64 u, .int .i64 v] t f)) b [u, v] := by
  subst hb
  intro k x hx
  have hb : (w.alloc (.cells #[.int .i64 u, .int .i64 v] t f)).heap[w.heap.size]? = some (.cells #[.int .i64 u, .int .i64 v] t f) := by
    show (w.heap.push _)[w.heap.size]? = _
    simp
  simp only [World.cell?, hb, Option.isSome_none, Bool.false_eq_true, if_false]
  match k, hx with
  | 0, hx => simp at hx; subst hx; rfl
  | 1, hx => simp at hx; subst hx; rfl
  | k + 2, hx => simp at hx
theorem cmpPair_at (x y : Lab2) (w : World) : Calls Tryd.prog 13 #[.agg #[.int .i64 x.i, .int .i64 x.o], .agg #[.int .i64 y.i, .int .i64 y.o]] w fun e w' => e = .returned (.int .i64 (cfL x y)) ∧ ∃ q os', w' = grow (w.drewN q) os' := by
  obtain ⟨xi, xo, h1, h2⟩ := x
  obtain ⟨yi, yo, h3, h4⟩ := y
  unfold cfL
  simp only
  have hor := fun W b h => or_at b 2 [(xi : Int) - (yi : Int), (xo : Int) - (yo : Int)] W rfl zT13 h
  generalize orI [(xi : Int) - (yi : Int), (xo : Int) - (yo : Int)] = z at hor
  go_enter Tryd.func13, Tryd.ntmps13
  go_wp2_with (go_at_call 14; refine (hor _ _ (by exact row4_two _ _ _ _ _ _ zT14)).mono ?_; rintro e w1 ⟨rfl, rfl⟩)
  go_ret
  refine ⟨rfl, ?_⟩
  simp only [Sort.alloc_eq_grow, Sort.grow_grow]
  exact ⟨0, _, rfl⟩
theorem lt_cfL (x y : Lab2) : ltOf cfL x y = decide (x.i < y.i ∨ x.i = y.i ∧ x.o < y.o) := by
  unfold ltOf cfL orI orI orI
  rw [Bool.eq_iff_iff, decide_eq_true_iff, decide_eq_true_iff]
  split
  · split <;> omega
  omega
theorem swo_lab : SWO (ltOf cfL) := ⟨fun a => by rw [lt_cfL]; simp, fun a b x h1 h2 => by rw [lt_cfL] at h1 h2 ⊢; simp at h1 h2 ⊢; omega, fun a b x h1 h2 => by rw [lt_cfL] at h1 h2 ⊢; simp at h1 h2 ⊢; omega⟩
theorem lab_one {x y : Lab2} (h1 : ltOf cfL x y = false) (h2 : ltOf cfL y x = false) : x = y := by
  rw [lt_cfL] at h1 h2
  simp at h1 h2
  obtain ⟨xi, xo, _, _⟩ := x
  obtain ⟨yi, yo, _, _⟩ := y
  simp only at h1 h2
  obtain rfl : xi = yi := by omega
  obtain rfl : xo = yo := by omega
  rfl
def leL (l : List Lab2) : List Lab2 := l.mergeSort fun x y => !ltOf cfL y x
theorem sortPair_at (blk cap : Nat) (d : Array Lab2) (w : World) (hH : HoldsK (enc2 eL) 2 w blk 0 d) (hblk : blk < w.heap.size) (hsz : d.size < 4611686018427387904) : Calls Tryd.prog 12 #[.slice (some ⟨blk, 0, none⟩) d.size cap, .func (.func 13) #[] #[]] w fun e w' => e = .returned (.tuple #[]) ∧ ∃ n os, w' = sortWorldK (enc2 eL) 2 w blk 0 n (leL d.toList).toArray os :=
  AnyQ.slices_SortFunc_total (P := Tryd.prog) (ρ := sortPair_ren) sortPair 2 Tryd.isAgg51 Tryd.sizeOf51 (enc2 eL) (enc2_len2 _) (enc2_one _) cfL swo_lab 13 #[] blk 0 cap d w ent_mp (fun m os dk hdk x y => cmpPair_at x y _) hH hblk hsz fun x y h1 h2 => lab_one h1 h2
theorem srtPair : Srt2 eL Tryd.prog 12 13 leL := ⟨sortPair_at, fun l => List.length_mergeSort _⟩
section
variable {c : Cx} {s : S} {o : Oper}
/-- Nothing to sort. -/
theorem st_sort2_0 {f gf : FuncId} {fn : Func} {code : Code} {nn : Nat} {rs : List ResultVar} {fx : Operand} {xs : Array Operand} {tys : Array TypeId} {r : Nat} {fl : Bool} (hf : Is c.P f fn code nn rs) (hS : ∀ (p : Option Addr) (cap : Nat) (w : World), Calls c.P f #[.slice p 0 cap, .func (.func gf) #[] #[]] w fun e w' => e = .returned (.tuple #[]) ∧ w' = w)
    (ho : o.op = .call { callee := .value fx, args := xs, argTypes := tys }) (hfx : s.ev fx = some (.fn f [])) (hargs : xs.toList.map s.ev = [.own r 2 0 fl, .fn gf []].map some) (hd : dok s o = true) :
    Step c o s (fun s' => s' = s.put o.dst (.tup [])) := by
  intro g a w hs K Q hK
  obtain ⟨cs, hfv, hcl0, _⟩ := fn_eval hs hfx
  obtain rfl : cs = [] := by cases cs with | nil => rfl | cons => simp at hcl0
  obtain ⟨hal, hav⟩ := args_eval hs hargs
  obtain ⟨x, y, hxy⟩ : ∃ x y, xs.toList.map a.eval = [x, y] := by
    match h : xs.toList.map a.eval, hal with
    | [x, y], _ => exact ⟨x, y, rfl⟩
  rw [hxy] at hav
  have hx := hav 0 _ x rfl rfl
  have hy := hav 1 _ y rfl rfl
  have hrun : (execOp a.eval o).run c.P w = .ok (.enter f #[x, y]) w := by
    rw [exec_call (caps := []) hf ho hfv, hxy]; rfl
  have hres0 : ∀ w', Sim c g s a w' → K (a.put o.dst (.tuple #[])) w' := fun w' h =>
    hK g _ _ w' rfl (h.put o.dst (dok_spec (s := s) hd) (.tup [] [] rfl (by intro j u z h1; simp at h1)))
  unfold Oper.wp
  rw [hrun]
  simp only [Oper.upon]
  obtain ⟨p, cap, rfl⟩ : ∃ p cap, x = .slice p 0 cap := by
    cases hx with
    | own _ _ _ hn' hc' => exact ⟨_, _, rfl⟩
    | ownNil => exact ⟨_, _, rfl⟩
  obtain rfl : y = .func (.func gf) #[] #[] := by
    cases hy with
    | fn _ _ cs' hlen' h' =>
      match cs', hlen' with
      | [], _ => rfl
  refine (hS p cap w).mono ?_
  rintro e' w' ⟨rfl, rfl⟩
  exact hres0 _ hs
/-- However many there are. -/
theorem st_sort2A {α : Type} [Inhabited α] {e : α → Int × Int} {f gf : FuncId} {fn : Func} {code : Code} {nn : Nat} {rs : List ResultVar} {res : List α → List α} {fx : Operand} {xs : Array Operand} {tys : Array TypeId} {r n : Nat} {fl : Bool} {ty : TypeId} {l : List α} (hf : Is c.P f fn code nn rs) (hS : Srt2 e c.P f gf res) (hN : ∀ (p : Option Addr) (cap : Nat) (w : World), Calls c.P f #[.slice p 0 cap, .func (.func gf) #[] #[]] w fun e w' => e = .returned (.tuple #[]) ∧ w' = w)
    (ho : o.op = .call { callee := .value fx, args := xs, argTypes := tys }) (hfx : s.ev fx = some (.fn f [])) (hargs : xs.toList.map s.ev = [.own r 2 n fl, .fn gf []].map some) (hr : fnd s.H r = some ⟨ty, l.flatMap (eV2 e), fl, 2⟩) (hn : l.length = n) (hnb : n ≤ 1000000) (hd : dok s o = true) :
    Step c o s (fun s' => s' = ({ s with H := (r, ⟨ty, (res l).flatMap (eV2 e), fl, 2⟩) :: s.H } : S).put o.dst (.tup [])) := by
  by_cases hpos : 0 < n
  · exact st_sort2 hf hS ho hfx hargs hr hn hnb hpos hd
  obtain rfl : n = 0 := by omega
  have hl0 : l = [] := List.eq_nil_of_length_eq_zero hn
  subst hl0
  have hr0 : res [] = [] := List.eq_nil_of_length_eq_zero (hS.len [])
  rw [hr0]
  have h0 := st_sort2_0 (r := r) hf hN ho hfx hargs hd
  have hless : Less ({ s with H := (r, ⟨ty, ([] : List α).flatMap (eV2 e), fl, 2⟩) :: s.H } : S) s := ⟨rfl, fun i v h => ⟨v, h, .refl _⟩, fun k row h => by
    simp only [fnd] at h
    split at h
    · rename_i hk
      simp only [beq_iff_eq] at hk
      subst hk
      simp only [Option.some.injEq] at h
      subst h
      exact ⟨_, hr, rfl, rfl, rfl, fun j v hv => ⟨v, hv, .refl _⟩⟩
    exact ⟨row, h, rfl, rfl, rfl, fun j v hv => ⟨v, hv, .refl _⟩⟩, fun j v h => ⟨v, h, .refl _⟩⟩
  intro g a w hs
  exact (st_sort2_0 (s := { s with H := (r, ⟨ty, ([] : List α).flatMap (eV2 e), fl, 2⟩) :: s.H }) (r := r) hf hN ho (by cases fx <;> exact hfx) (by rw [← hargs]; exact List.map_congr_left fun x _ => by cases x <;> rfl) hd) g a w (hs.less hless)
end
theorem sortPair_none (p : Option Addr) (cap : Nat) (w : World) : Calls Tryd.prog 12 #[.slice p 0 cap, .func (.func 13) #[] #[]] w fun e w' => e = .returned (.tuple #[]) ∧ w' = w := AnyF.slices_SortFunc_none (P := Tryd.prog) (ρ := sortPair_ren) { sortPair with } p cap _ w
theorem toP_one {n s : Nat} (h : s < n) : toP (ceOne n s) = [(s, 0)] := by
  have hlen : (ceOne n s).length = n := by simp [ceOne]
  have hget : ∀ q, (ceOne n s).getD q big = if q = s then 0 else big := by
    intro q
    unfold ceOne
    rw [List.getD_eq_getElem?_getD, List.getElem?_set]
    by_cases e : s = q
    · subst e
      rw [if_pos rfl, if_pos rfl, if_pos (by simpa using h)]
      rfl
    rw [if_neg e, if_neg (fun h => e h.symm), List.getElem?_replicate]
    split <;> rfl
  have hb : ¬ (0 : Nat) = big := by decide
  refine uniq_lt (r := fun x y : Nat × Nat => x.1 < y.1) (fun a b h1 h2 => by omega) (toK_lt _ _) (List.pairwise_singleton _ _) fun x => ?_
  unfold toP
  rw [toK_mem, hlen, hget, List.mem_singleton]
  constructor
  · rintro ⟨h1, h2, h3⟩
    by_cases e : x.1 = s
    · rw [if_pos e] at h2
      exact Prod.ext e h2.symm
    rw [if_neg e] at h2
    exact absurd h2.symm h3
  rintro rfl
  exact ⟨h, if_pos rfl, hb⟩
theorem toP_ok {n : Nat} {d : List Nat} (h60 : n ≤ 60) (hd : d.length = n) (hb : ∀ x ∈ d, x = big ∨ x ≤ 1000000000000) : (toP d).length ≤ 60 ∧ ∀ x ∈ toP d, ptOk x ∧ x.1 < n := by
  refine ⟨?_, fun x hx => ?_⟩
  · have := toK_len d d.length
    unfold toP
    omega
  obtain ⟨h1, h2, h3⟩ := toK_mem.1 hx
  have hm : x.2 ∈ d := by
    rw [← h2, List.getD_eq_getElem?_getD, List.getElem?_eq_getElem h1, Option.getD_some]
    exact List.getElem_mem h1
  exact ⟨⟨by omega, (hb _ hm).resolve_left h3⟩, by omega⟩
/-- A pair of labels that are not too large. -/
def labQ (k : Int × Int) : Lab2 := ⟨min k.1.toNat 1000000000, min k.2.toNat 1000000000, Nat.min_le_right _ _, Nat.min_le_right _ _⟩
theorem eL_labQ {k : Int × Int} (h : (0 ≤ k.1 ∧ k.1 ≤ 1000000000) ∧ 0 ≤ k.2 ∧ k.2 ≤ 1000000000) : eL (labQ k) = k := by
  obtain ⟨a, b⟩ := k
  simp only at h
  unfold eL labQ
  simp only
  refine Prod.ext ?_ ?_ <;> simp only <;> omega
theorem eL_inj {x y : Lab2} (h : eL x = eL y) : x = y := by
  obtain ⟨xi, xo, _, _⟩ := x
  obtain ⟨yi, yo, _, _⟩ := y
  unfold eL at h
  simp only [Prod.mk.injEq] at h
  obtain rfl : xi = yi := by omega
  obtain rfl : xo = yo := by omega
  rfl
theorem leL_perm (l : List Lab2) : (leL l).Perm l := List.mergeSort_perm _ _
theorem leL_lt {l : List Lab2} (h : l.Nodup) : (leL l).Pairwise fun x y => ltQ (eL x) (eL y) := by
  have h1 := List.pairwise_mergeSort (le := fun x y : Lab2 => !ltOf cfL y x) (by
    intro a b c
    rw [lt_cfL, lt_cfL, lt_cfL]
    simp
    omega) (by
    intro a b
    rw [lt_cfL, lt_cfL]
    simp
    omega) l
  have h2 : (leL l).Pairwise fun x y => x ≠ y := (leL_perm l).nodup_iff.2 h
  refine (h1.and h2).imp ?_
  rintro x y ⟨h3, h4⟩
  rw [lt_cfL] at h3
  simp at h3
  unfold ltQ eL
  simp only
  have h5 : ¬ (x.i = y.i ∧ x.o = y.o) := fun ⟨e1, e2⟩ => h4 (eL_inj (by unfold eL; rw [e1, e2]))
  omega
theorem prA_mem {sts : List St} {d : List Nat} {a : Ar} : ∀ {k : Nat}, a ∈ prA sts d k → ∃ x ∈ sts, a ∈ x.arcs
  | 0, h => by simp [prA] at h
  | k + 1, h => by
    rw [prA] at h
    split at h
    · exact prA_mem h
    rcases List.mem_append.1 h with h | h
    · exact prA_mem h
    unfold stA at h
    rw [List.getD_eq_getElem?_getD] at h
    cases hx : sts[k]? with
    | none => rw [hx] at h; simp at h
    | some x =>
      rw [hx] at h
      exact ⟨x, List.mem_of_getElem? hx, h⟩
/-- The keys of what a set reaches, as bounded pairs; in order they are the document's. -/
theorem rcP_labs {sts : List St} {d : List Nat} (hl : d.length = sts.length) (hd : ∀ x ∈ d, x = big ∨ x ≤ 1000000000000) (ha : ∀ x ∈ sts, ∀ a ∈ x.arcs, arOk (sts.length : Int) a = true) : ∃ ks : List Lab2, (rcP sts (toP d)).map (·.1) = ks.map eL ∧ (∀ A : List Lab2, A.Perm ks → (leL A).map eL = (prS sts d).map pq) ∧ ks.length = (prS sts d).length := by
  have ha' : ∀ x ∈ sts, ∀ a ∈ x.arcs, (0 ≤ a.w ∧ a.w ≤ 1000000000) ∧ 0 ≤ a.t ∧ a.t < sts.length := fun x hx a hax => by
    have h1 := ha x hx a hax
    simp only [arOk, decide_eq_true_eq] at h1
    omega
  obtain ⟨hnd, hke⟩ := rcP_keys hl hd ha'
  have hbd : ∀ k ∈ (rcP sts (toP d)).map (·.1), eL (labQ k) = k := by
    intro k hk
    have h1 := (hke k).2 hk
    obtain ⟨a, h2, rfl⟩ := ((prS_spec sts d).2 k).1 h1
    obtain ⟨x, hx, hax⟩ := prA_mem h2
    have h3 := ha x hx a hax
    simp only [arOk, decide_eq_true_eq] at h3
    exact eL_labQ (by simp only; omega)
  have hks : ((rcP sts (toP d)).map (·.1)).map (fun k => eL (labQ k)) = (rcP sts (toP d)).map (·.1) := by
    conv => rhs; rw [← List.map_id ((rcP sts (toP d)).map (·.1))]
    exact List.map_congr_left fun k hk => hbd k hk
  have hks2 : (((rcP sts (toP d)).map (·.1)).map labQ).map eL = (rcP sts (toP d)).map (·.1) := by
    rw [List.map_map]
    exact hks
  have hnk : (((rcP sts (toP d)).map (·.1)).map labQ).Nodup := by
    have h1 : ((((rcP sts (toP d)).map (·.1)).map labQ).map eL).Nodup := by rw [hks2]; exact hnd
    exact (List.pairwise_map.1 h1).imp fun h e => h (congrArg eL e)
  have hsrt : ∀ A : List Lab2, A.Perm (((rcP sts (toP d)).map (·.1)).map labQ) → (leL A).map eL = (prS sts d).map pq := by
    intro A hA
    refine uniq_lt ltQ_asy (List.pairwise_map.2 (leL_lt (hA.nodup_iff.2 hnk))) (prS_spec sts d).1 fun k => ?_
    have h1 : ((leL A).map eL).Perm ((((rcP sts (toP d)).map (·.1)).map labQ).map eL) := ((leL_perm A).trans hA).map eL
    rw [h1.mem_iff, hks2]
    exact (hke k).symm
  refine ⟨((rcP sts (toP d)).map (·.1)).map labQ, hks2.symm, hsrt, ?_⟩
  have h1 := congrArg List.length (hsrt _ (List.Perm.refl _))
  rw [List.length_map, List.length_map, (leL_perm _).length_eq] at h1
  exact h1
theorem rcP_find {sts : List St} {d : List Nat} (hl : d.length = sts.length) (hd : ∀ x ∈ d, x = big ∨ x ≤ 1000000000000) (ha : ∀ x ∈ sts, ∀ a ∈ x.arcs, arOk (sts.length : Int) a = true) {p : Ar} (hp : p ∈ prS sts d) : ∃ j lj, kfind (rcP sts (toP d)) (p.i, p.o) 0 = some (j, lj) ∧ LjI d.length lj (nxL sts d p) := by
  have ha' : ∀ x ∈ sts, ∀ a ∈ x.arcs, (0 ≤ a.w ∧ a.w ≤ 1000000000) ∧ 0 ≤ a.t ∧ a.t < sts.length := fun x hx a hax => by
    have h1 := ha x hx a hax
    simp only [arOk, decide_eq_true_eq] at h1
    omega
  obtain ⟨hnd, hke⟩ := rcP_keys hl hd ha'
  obtain ⟨j, lj, h1, h2⟩ := kfind_mem ((hke (pq p)).1 (List.mem_map_of_mem hp))
  exact ⟨j, lj, h1, rcP_lj hl hd ha' h2⟩
end Go.Proofs.YthiknkcigcglkaaDoor
