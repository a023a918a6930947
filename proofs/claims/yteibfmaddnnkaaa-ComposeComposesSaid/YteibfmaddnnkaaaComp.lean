/- What one machine writes another one reads, as plain data. -/
import Derived.Test.YteibfmaddnnkaaaAmK
import Derived.Test.YteibfmaddnnkaaaExp
namespace Go.Proofs.Yteibfmaddnnkaaa
open Go.RowKit
set_option linter.unusedSimpArgs false
set_option linter.unusedVariables false

abbrev T3 := Int × Int × Int
def hk (h : Hp) : T3 := (h.a, h.b, h.f)
def numL (l : List T3) : List (T3 × Int) := l.zipIdx.map fun x => (x.1, (x.2 : Int))
theorem numL_snoc (l : List T3) (t : T3) : numL (l ++ [t]) = numL l ++ [(t, (l.length : Int))] := by
  simp [numL, List.zipIdx_append]
theorem numL_none {l : List T3} {t : T3} : mget (numL l) t = none ↔ t ∉ l := by
  rw [mget_none]
  constructor
  · intro h hm
    obtain ⟨i, hi⟩ := List.getElem?_of_mem hm
    refine h (t, (i : Int)) ?_ rfl
    unfold numL
    refine List.mem_map.2 ⟨(t, i), ?_, rfl⟩
    exact List.mem_of_getElem? (i := i) (by rw [List.getElem?_zipIdx, hi]; simp)
  · intro h x hx
    unfold numL at hx
    obtain ⟨y, hy, rfl⟩ := List.mem_map.1 hx
    obtain ⟨i, hi⟩ := List.getElem?_of_mem hy
    rw [List.getElem?_zipIdx] at hi
    cases hl : l[i]? with
    | none => rw [hl] at hi; cases hi
    | some u =>
      rw [hl] at hi
      simp only [Option.map_some, Option.some.injEq] at hi
      subst hi
      intro e
      exact h (e ▸ List.mem_of_getElem? hl)
theorem numL_put {l : List T3} {t : T3} (h : mget (numL l) t = none) : mput (numL l) t (l.length : Int) = numL (l ++ [t]) := by rw [mput_new h, numL_snoc]
/-- Where a triple stands; -1: nowhere. -/
def posT (l : List T3) (t : T3) : Int := (mget (numL l) t).getD (-1)
theorem posT_hit {l : List T3} {t u : T3} {k : Nat} (h : l[k]? = some u) (hnd : l.Nodup) (e : u = t) : posT (l.take (k + 1)) t = k := by
  subst e
  have hk := (List.getElem?_eq_some_iff.1 h).1
  have hno : u ∉ l.take k := by
    intro hm
    obtain ⟨j, hj⟩ := List.getElem?_of_mem hm
    rw [List.getElem?_take] at hj
    split at hj
    · rename_i hjk
      have := (List.getElem?_eq_some_iff.1 hj)
      have h2 := (List.getElem?_eq_some_iff.1 h)
      obtain ⟨a1, a2⟩ := this
      obtain ⟨b1, b2⟩ := h2
      have := (List.getElem_inj hnd).1 (a2.trans b2.symm)
      omega
    · cases hj
  rw [take_snoc h]
  unfold posT
  rw [numL_snoc, mget_snoc, numL_none.2 hno]
  simp
  omega
theorem posT_miss {l : List T3} {t u : T3} {k : Nat} (h : l[k]? = some u) (e : u ≠ t) : posT (l.take (k + 1)) t = posT (l.take k) t := by
  rw [take_snoc h]
  unfold posT
  rw [numL_snoc, mget_snoc]
  cases mget (numL (l.take k)) t with
  | none => simp [Ne.symm e]
  | some v => rfl
theorem numL_range {l : List T3} {t : T3} {v : Int} (h : mget (numL l) t = some v) : 0 ≤ v ∧ v < l.length := by
  unfold mget at h
  cases hf : mfind (numL l) t 0 with
  | none => rw [hf] at h; cases h
  | some x =>
    obtain ⟨i, u⟩ := x
    rw [hf] at h
    simp only [Option.map_some, Option.some.injEq] at h
    subst h
    have := mfind_some hf
    unfold numL at this
    rw [List.getElem?_map, List.getElem?_zipIdx] at this
    cases hl : l[i]? with
    | none => rw [hl] at this; cases this
    | some z =>
      rw [hl] at this
      simp only [Option.map_some, Option.some.injEq, Prod.mk.injEq] at this
      have hi := (List.getElem?_eq_some_iff.1 hl).1
      omega
theorem posT_some {l : List T3} {t : T3} {v : Int} (h : mget (numL l) t = some v) : posT l t = v := by unfold posT; rw [h]; rfl
theorem posT_none {l : List T3} {t : T3} (h : mget (numL l) t = none) : posT l t = -1 := by unfold posT; rw [h]; rfl

/-- The number of a triple, and the triples behind it. -/
def toQ (l : List T3) (t : T3) : Int := (mget (numL l) t).getD l.length
def toL (l : List T3) (t : T3) : List T3 := if (mget (numL l) t).isSome then l else l ++ [t]
def hpA (l : List T3) (h : Hp) : Ar := ⟨h.i, h.o, h.w, toQ l (hk h)⟩
theorem toQ_some {l : List T3} {t : T3} {v : Int} (h : mget (numL l) t = some v) : toQ l t = v := by unfold toQ; rw [h]; rfl
theorem toL_some {l : List T3} {t : T3} {v : Int} (h : mget (numL l) t = some v) : toL l t = l := by unfold toL; rw [h]; rfl
theorem toQ_none {l : List T3} {t : T3} (h : mget (numL l) t = none) : toQ l t = l.length := by unfold toQ; rw [h]; rfl
theorem toL_none {l : List T3} {t : T3} (h : mget (numL l) t = none) : toL l t = l ++ [t] := by unfold toL; rw [h]; rfl
def runH : List Hp → List T3 → Nat → List Ar → Option (List T3 × Nat × List Ar)
  | [], l, n, o => some (l, n, o)
  | h :: hs, l, n, o => if 400 < n + 1 ∨ 60 < (toL l (hk h)).length then none else runH hs (toL l (hk h)) (n + 1) (o ++ [hpA l h])
def comp (m n : Mach) : Nat → List T3 → Nat → List St → Int × List St
  | 0, _, _, _ => (5, [])
  | k + 1, l, a, P => match l[P.length]? with
    | none => (0, P)
    | some t => if (expR m n t.1 t.2.1 t.2.2).2.2 ≠ 0 then ((expR m n t.1 t.2.1 t.2.2).2.2, []) else match runH (expR m n t.1 t.2.1 t.2.2).2.1 l a [] with
      | none => (5, [])
      | some r => comp m n k r.1 r.2.1 (P ++ [⟨(expR m n t.1 t.2.1 t.2.2).1, r.2.2⟩])
def comp0 (m n : Mach) : Int × List St := comp m n 61 [(m.start, n.start, 0)] 0 []
def comE (m n : Mach) : Int := if twoE m n ≠ 0 then twoE m n else if m.start < 0 ∨ n.start < 0 then 0 else (comp0 m n).1
def comR (m n : Mach) : Mach := if twoE m n ≠ 0 then ⟨0, []⟩ else if m.start < 0 ∨ n.start < 0 then ⟨-1, []⟩ else if (comp0 m n).1 = 0 then ⟨0, (comp0 m n).2⟩ else ⟨0, []⟩

theorem comp_done {m n : Mach} {k : Nat} {l : List T3} {a : Nat} {P : List St} (h : l.length ≤ P.length) : comp m n (k + 1) l a P = (0, P) := by
  unfold comp
  rw [List.getElem?_eq_none h]
theorem comp_err {m n : Mach} {k : Nat} {l : List T3} {a : Nat} {P : List St} {t : T3} {r : Int × List Hp × Int} (h : l[P.length]? = some t) (hr : expR m n t.1 t.2.1 t.2.2 = r) (he : r.2.2 ≠ 0) : comp m n (k + 1) l a P = (r.2.2, []) := by
  unfold comp
  rw [h]
  simp only [hr]
  rw [if_pos he]
theorem comp_full {m n : Mach} {k : Nat} {l : List T3} {a : Nat} {P : List St} {t : T3} {r : Int × List Hp × Int} (h : l[P.length]? = some t) (hr : expR m n t.1 t.2.1 t.2.2 = r) (he : r.2.2 = 0) (hn : runH r.2.1 l a [] = none) : comp m n (k + 1) l a P = (5, []) := by
  unfold comp
  rw [h]
  simp only [hr]
  rw [if_neg (by simp [he]), hn]
theorem comp_next {m n : Mach} {k : Nat} {l : List T3} {a : Nat} {P : List St} {t : T3} {r : Int × List Hp × Int} {l' : List T3} {a' : Nat} {o : List Ar} (h : l[P.length]? = some t) (hr : expR m n t.1 t.2.1 t.2.2 = r) (he : r.2.2 = 0) (hn : runH r.2.1 l a [] = some (l', a', o)) : comp m n (k + 1) l a P = comp m n k l' a' (P ++ [⟨r.1, o⟩]) := by
  conv => lhs; unfold comp
  rw [h]
  simp only [hr]
  rw [if_neg (by simp [he]), hn]
theorem runH_full {h : Hp} {hs : List Hp} {l : List T3} {n : Nat} {o : List Ar} (e : 400 < n + 1 ∨ 60 < (toL l (hk h)).length) : runH (h :: hs) l n o = none := by unfold runH; rw [if_pos e]
theorem runH_next {h : Hp} {hs : List Hp} {l : List T3} {n : Nat} {o : List Ar} (e : ¬ (400 < n + 1 ∨ 60 < (toL l (hk h)).length)) : runH (h :: hs) l n o = runH hs (toL l (hk h)) (n + 1) (o ++ [hpA l h]) := by rw [runH, if_neg e]
theorem runH_done {l : List T3} {n : Nat} {o : List Ar} : runH [] l n o = some (l, n, o) := rfl
theorem runH_at {hs : List Hp} {i : Nat} {h : Hp} (hi : hs[i]? = some h) : hs.drop i = h :: hs.drop (i + 1) := by
  have hlt := (List.getElem?_eq_some_iff.1 hi).1
  rw [List.drop_eq_getElem_cons hlt, (List.getElem?_eq_some_iff.1 hi).2]

/-- A triple of two machines. -/
def goodT (m n : Mach) (t : T3) : Prop := (0 ≤ t.1 ∧ t.1 < m.states.length) ∧ (0 ≤ t.2.1 ∧ t.2.1 < n.states.length) ∧ 0 ≤ t.2.2 ∧ t.2.2 ≤ 2
structure Lok (m n : Mach) (l : List T3) : Prop where
  nd : l.Nodup
  good : ∀ t ∈ l, goodT m n t
theorem Lok.to {m n : Mach} {l : List T3} (h : Lok m n l) {t : T3} (ht : goodT m n t) : Lok m n (toL l t) := by
  unfold toL
  split
  · exact h
  · rename_i hn
    have hnm : t ∉ l := numL_none.1 (by cases e : mget (numL l) t with | none => rfl | some v => rw [e] at hn; simp at hn)
    refine ⟨List.nodup_append.2 ⟨h.nd, by simp, fun a ha b hb => ?_⟩, fun u hu => ?_⟩
    · simp at hb
      subst hb
      rintro rfl
      exact hnm ha
    · rcases List.mem_append.1 hu with hu | hu
      · exact h.good u hu
      · simp at hu; subst hu; exact ht
theorem allH_good {m n : Mach} {x y : St} {ta tb f : Int} (hx : ∀ a ∈ x.arcs, arOk m.states.length a = true) (hy : ∀ a ∈ y.arcs, arOk n.states.length a = true) (ht : goodT m n (ta, tb, f)) : ∀ h ∈ allH x.arcs y.arcs ta tb f, goodT m n (hk h) := by
  intro h hh
  obtain ⟨h1, h2, h3⟩ := ht
  simp only at h1 h2 h3
  unfold allH at hh
  rcases List.mem_append.1 hh with hh | hh
  · unfold leftsH at hh
    obtain ⟨a, ha, hh⟩ := List.mem_flatMap.1 hh
    have hxa := uArOk_iff.1 (hx a ha)
    rcases List.mem_append.1 hh with hh | hh
    · unfold innerH at hh
      obtain ⟨b, hb, rfl⟩ := List.mem_map.1 hh
      have hyb := uArOk_iff.1 (hy b (List.mem_filter.1 hb).1)
      refine ⟨?_, ?_, ?_⟩ <;> simp only [hk, bothH] <;> omega
    · unfold loneH at hh
      split at hh
      · simp at hh; subst hh
        refine ⟨?_, ?_, ?_⟩ <;> simp only [hk] <;> omega
      · cases hh
  · unfold rightsH at hh
    obtain ⟨b, hb, hh⟩ := List.mem_flatMap.1 hh
    have hyb := uArOk_iff.1 (hy b hb)
    unfold restH at hh
    split at hh
    · simp at hh; subst hh
      refine ⟨?_, ?_, ?_⟩ <;> simp only [hk] <;> omega
    · cases hh
theorem allH_len {x y : St} {ta tb f : Int} (hx : x.arcs.length ≤ 400) (hy : y.arcs.length ≤ 400) : (allH x.arcs y.arcs ta tb f).length ≤ 160800 := by
  have h1 := leftsH_len y.arcs tb f hy x.arcs
  have h2 := rightsH_len ta f y.arcs
  unfold allH
  rw [List.length_append]
  omega
theorem expX_good {m n : Mach} {x y : St} {ta tb f : Int} (hx : ∀ a ∈ x.arcs, arOk m.states.length a = true) (hy : ∀ a ∈ y.arcs, arOk n.states.length a = true) (ht : goodT m n (ta, tb, f)) : ∀ h ∈ (expX x y ta tb f).2.1, goodT m n (hk h) := by
  unfold expX
  split
  · simp
  · split
    · simp
    · exact allH_good hx hy ht
theorem expX_len {x y : St} {ta tb f : Int} (hx : x.arcs.length ≤ 400) (hy : y.arcs.length ≤ 400) : (expX x y ta tb f).2.1.length ≤ 160800 := by
  unfold expX
  split
  · simp
  · split
    · simp
    · exact allH_len hx hy
/-- What a good triple makes. -/
theorem expR_good {m n : Mach} {t : T3} (h2 : twoE m n = 0) (ht : goodT m n t) : ∃ (p q : Nat) (f : Int) (x y : St), t = ((p : Int), (q : Int), f) ∧ m.states[p]? = some x ∧ n.states[q]? = some y ∧ (0 ≤ f ∧ f ≤ 2) ∧ expR m n t.1 t.2.1 t.2.2 = expX x y p q f ∧ (expX x y p q f).2.1.length ≤ 160800 ∧ ∀ h ∈ (expX x y p q f).2.1, goodT m n (hk h) := by
  obtain ⟨g1, g2⟩ := twoE_zero h2
  obtain ⟨_, a400, _, az⟩ := machE_zero g1
  obtain ⟨_, b400, _, bz⟩ := machE_zero g2
  obtain ⟨ta, tb, f⟩ := t
  have ht' := ht
  obtain ⟨h3, h4, h5⟩ := ht'
  simp only at h3 h4 h5
  obtain ⟨p, rfl⟩ := Int.eq_ofNat_of_zero_le h3.1
  obtain ⟨q, rfl⟩ := Int.eq_ofNat_of_zero_le h4.1
  have hp : p < m.states.length := by omega
  have hq : q < n.states.length := by omega
  refine ⟨p, q, f, m.states[p], n.states[q], rfl, List.getElem?_eq_getElem hp, List.getElem?_eq_getElem hq, h5, ?_, ?_, ?_⟩
  · unfold expR
    rw [if_neg (by simp [h2]), if_neg (by unfold badT; simp only; omega)]
    simp [List.getD_eq_getElem?_getD, hp, hq]
  · exact expX_len (Nat.le_trans (arcN_mem _ _ (List.getElem_mem hp)) a400) (Nat.le_trans (arcN_mem _ _ (List.getElem_mem hq)) b400)
  · exact expX_good (az _ (List.getElem_mem hp)).2 (bz _ (List.getElem_mem hq)).2 ht
end Go.Proofs.Yteibfmaddnnkaaa
