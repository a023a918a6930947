/- What it costs to read one word and to write another, plainly: by rounds over all places, and by a heap of places. -/
import Derived.Test.YtnpbdcjfealoeaaDist
import Derived.Test.YtnpbdcjfealoeaaAmK
import Derived.Test.YtnpbdcjfealoeaaAmP
namespace Go.Proofs.Ytnpbdcjfealoeaa
open Go.RowKit
set_option linter.unusedSimpArgs false
set_option linter.unusedVariables false

open Classical in
/-- The least number of which something holds, or what is above all. -/
noncomputable def mnB (P : Nat → Prop) : Nat := if h : ∃ d, d < big ∧ P d then Classical.choose (least_nat h) else big
theorem mnB_spec (P : Nat → Prop) : mnB P ≤ big ∧ (mnB P < big → P (mnB P)) ∧ ∀ d, P d → mnB P ≤ d ∨ big ≤ d := by
  unfold mnB
  split
  · rename_i h
    obtain ⟨⟨h1, h2⟩, h3⟩ := Classical.choose_spec (least_nat h)
    refine ⟨Nat.le_of_lt h1, fun _ => h2, fun d hd => ?_⟩
    by_cases hb : d < big
    · exact .inl (h3 d ⟨hb, hd⟩)
    · exact .inr (by omega)
  · rename_i h
    refine ⟨Nat.le_refl _, fun h => absurd h (by omega), fun d hd => ?_⟩
    by_cases hb : d < big
    · exact absurd ⟨d, hb, hd⟩ h
    · exact .inr (by omega)
theorem mnB_eq {P : Nat → Prop} {v : Nat} (h1 : v ≤ big) (h2 : v < big → P v) (h3 : ∀ d, P d → v ≤ d ∨ big ≤ d) : v = mnB P := by
  obtain ⟨a1, a2, a3⟩ := mnB_spec P
  by_cases hv : v < big
  · rcases a3 v (h2 hv) with h | h
    · by_cases hm : mnB P < big
      · rcases h3 _ (a2 hm) with h' | h' <;> omega
      · omega
    · omega
  · by_cases hm : mnB P < big
    · rcases h3 _ (a2 hm) with h' | h' <;> omega
    · omega

/-- Where a label leads in a word from a place on. -/
def fitN (l : List Int) (k : Nat) (a : Int) : Option Nat := if a = 0 then some k else if l[k]? = some a then some (k + 1) else none
theorem fitN_le {l : List Int} {k k' : Nat} {a : Int} (h : fitN l k a = some k') (hk : k ≤ l.length) : k' ≤ l.length := by
  unfold fitN at h
  split at h
  · simp only [Option.some.injEq] at h; omega
  · split at h
    · rename_i h2
      have := (List.getElem?_eq_some_iff.1 h2).1
      simp only [Option.some.injEq] at h; omega
    · cases h
def fitJ (fr : Bool) (l : List Int) (k : Nat) (a : Int) : Option Nat := if fr = true then some k else fitN l k a
theorem fitJ_le {fr : Bool} {l : List Int} {k k' : Nat} {a : Int} (h : fitJ fr l k a = some k') (hk : k ≤ l.length) : k' ≤ l.length := by
  unfold fitJ at h
  split at h
  · simp only [Option.some.injEq] at h; omega
  · exact fitN_le h hk
/-- A place as a number. -/
def ixW (x y : List Int) (q i j : Nat) : Nat := (q * (x.length + 1) + i) * (y.length + 1) + j
section
variable {x y : List Int} {q i j : Nat}
theorem ix_j (hj : j ≤ y.length) : ixW x y q i j % (y.length + 1) = j := by
  unfold ixW
  rw [Nat.mul_comm, Nat.mul_add_mod, Nat.mod_eq_of_lt (by omega)]
theorem ix_d (hj : j ≤ y.length) : ixW x y q i j / (y.length + 1) = q * (x.length + 1) + i := by
  unfold ixW
  rw [Nat.mul_comm, Nat.mul_add_div (by omega), Nat.div_eq_of_lt (by omega), Nat.add_zero]
theorem ix_i (hi : i ≤ x.length) (hj : j ≤ y.length) : ixW x y q i j / (y.length + 1) % (x.length + 1) = i := by
  rw [ix_d hj, Nat.mul_comm, Nat.mul_add_mod, Nat.mod_eq_of_lt (by omega)]
theorem ix_q (hi : i ≤ x.length) (hj : j ≤ y.length) : ixW x y q i j / (y.length + 1) / (x.length + 1) = q := by
  rw [ix_d hj, Nat.mul_comm, Nat.mul_add_div (by omega), Nat.div_eq_of_lt (by omega), Nat.add_zero]
theorem ix_lt {n : Nat} (hq : q < n) (hi : i ≤ x.length) (hj : j ≤ y.length) : ixW x y q i j < n * (x.length + 1) * (y.length + 1) := by
  unfold ixW
  have h1 : q * (x.length + 1) + i + 1 ≤ n * (x.length + 1) := by
    have := Nat.mul_le_mul_right (x.length + 1) (show q + 1 ≤ n by omega)
    rw [Nat.add_mul] at this; omega
  have h2 := Nat.mul_le_mul_right (y.length + 1) h1
  rw [Nat.add_mul] at h2
  omega
end
section
variable (st : Int) (sts : List St) (x y : List Int) (fr : Bool)
def gInit (k d : Nat) : Prop := ∃ q : Nat, st = (q : Int) ∧ k = ixW x y q 0 0 ∧ d = 0
def gEdge (k p w : Nat) : Prop := ∃ (s : St) (t : Nat) (a : Ar) (i j : Nat), sts[k / (y.length + 1) / (x.length + 1)]? = some s ∧ s.arcs[t]? = some a ∧ fitN x (k / (y.length + 1) % (x.length + 1)) a.i = some i ∧ fitJ fr y (k % (y.length + 1)) a.o = some j ∧ p = ixW x y a.t.toNat i j ∧ a.w = (w : Int)
/-- What whole ways cost. -/
def gWay (D : Nat → Nat) (n : Nat) (c : Nat) : Prop := ∃ (q d : Nat) (s : St), q < n ∧ sts[q]? = some s ∧ s.fin ≠ 1000000001 ∧ D (ixW x y q x.length y.length) = d ∧ d ≠ big ∧ (c : Int) = d + s.fin
noncomputable def gDst : Nat → Nat := dst (gInit st x y) (gEdge sts x y fr)
noncomputable def gBest : Nat := mnB (gWay sts x y (gDst st sts x y fr) sts.length)

/-- An item: it costs c to be at a place. -/
structure It where
  q : Nat
  i : Nat
  j : Nat
  c : Nat
abbrev It.key (e : It) : Int × Int × Int := ((e.q : Int), (e.i : Int), (e.j : Int))
abbrev It.ix (x y : List Int) (e : It) : Nat := ixW x y e.q e.i e.j
def itM (L : List It) : List ((Int × Int × Int) × Int) := L.map fun e => (e.key, (e.c : Int))
structure Dj (L Q : List It) (X : Nat → Nat → Nat → Prop) : Prop where
  itv : ∀ e ∈ L ++ Q, e.q < sts.length ∧ e.i ≤ x.length ∧ e.j ≤ y.length ∧ Pth (gInit st x y) (gEdge sts x y fr) (e.ix x y) e.c
  nd : (L.map (It.ix x y)).Nodup
  ini : ∀ k d, gInit st x y k d → ∃ e ∈ L ++ Q, e.ix x y = k ∧ e.c ≤ d
  cl : ∀ e ∈ L, ∀ p w, gEdge sts x y fr (e.ix x y) p w → X (e.ix x y) p w ∨ ∃ e' ∈ L ++ Q, e'.ix x y = p ∧ e'.c ≤ e.c + w
  ord : ∀ e ∈ L, ∀ e' ∈ Q, e.c ≤ e'.c
  bnd : ∀ e ∈ L ++ Q, e.c ≤ L.length * 1000000000
/-- The end of a way. -/
def gEnd (e : It) (c : Nat) : Prop := e.i = x.length ∧ e.j = y.length ∧ ∃ s, sts[e.q]? = some s ∧ s.fin ≠ 1000000001 ∧ (c : Int) = e.c + s.fin
def Btw (L : List It) (b : Int) : Prop := (b = -1 ∧ ∀ e ∈ L, ∀ c, ¬ gEnd sts x y e c) ∨ ∃ c : Nat, b = (c : Int) ∧ (∃ e ∈ L, gEnd sts x y e c) ∧ ∀ e ∈ L, ∀ c', gEnd sts x y e c' → c ≤ c'
end
section
variable {st : Int} {sts : List St} {x y : List Int} {fr : Bool} {L Q Q' : List It} {e : It} {X : Nat → Nat → Nat → Prop}
theorem It.ix_inj {a b : It} (ha : a.i ≤ x.length ∧ a.j ≤ y.length) (hb : b.i ≤ x.length ∧ b.j ≤ y.length) : a.ix x y = b.ix x y ↔ a.key = b.key := by
  constructor
  · intro h
    have h1 := ix_q (q := a.q) ha.1 ha.2
    have h2 := ix_i (q := a.q) ha.1 ha.2
    have h3 := ix_j (x := x) (q := a.q) (i := a.i) ha.2
    have h4 := ix_q (q := b.q) hb.1 hb.2
    have h5 := ix_i (q := b.q) hb.1 hb.2
    have h6 := ix_j (x := x) (q := b.q) (i := b.i) hb.2
    unfold It.ix at h
    rw [h] at h1 h2 h3
    simp only [It.key]
    rw [← h1, ← h2, ← h3, h4, h5, h6]
  · intro h
    simp only [It.key, Prod.mk.injEq] at h
    unfold It.ix
    rw [show a.q = b.q by omega, show a.i = b.i by omega, show a.j = b.j by omega]
theorem itM_none : mget (itM L) e.key = none ↔ ∀ a ∈ L, a.key ≠ e.key := by
  rw [mget_none]
  constructor
  · intro h a ha
    exact h (a.key, (a.c : Int)) (List.mem_map.2 ⟨a, ha, rfl⟩)
  · intro h z hz
    obtain ⟨a, ha, rfl⟩ := List.mem_map.1 hz
    exact h a ha
theorem itM_put (h : mget (itM L) e.key = none) : mput (itM L) e.key (e.c : Int) = itM (L ++ [e]) := by
  rw [mput_new h]; simp [itM]
theorem Dj.len (h : Dj st sts x y fr L Q X) : L.length ≤ sts.length * (x.length + 1) * (y.length + 1) := by
  have := nodup_len (n := sts.length * (x.length + 1) * (y.length + 1)) h.nd (fun k hk => by
    obtain ⟨a, ha, rfl⟩ := List.mem_map.1 hk
    obtain ⟨h1, h2, h3, _⟩ := h.itv a (List.mem_append_left _ ha)
    exact ix_lt h1 h2 h3)
  simpa using this
theorem Dj.start {q0 : Nat} (h0 : st = (q0 : Int)) (hq : q0 < sts.length) : Dj st sts x y fr [] [⟨q0, 0, 0, 0⟩] (fun _ _ _ => False) := by
  refine ⟨fun e he => ?_, by simp, fun k d ⟨q, h1, h2, h3⟩ => ?_, by simp, by simp, fun e he => ?_⟩
  · simp only [List.nil_append, List.mem_singleton] at he
    subst he
    exact ⟨hq, Nat.zero_le _, Nat.zero_le _, .init _ _ ⟨q0, h0, rfl, rfl⟩⟩
  · refine ⟨⟨q0, 0, 0, 0⟩, by simp, ?_, Nat.zero_le _⟩
    rw [h2]
    show ixW x y q0 0 0 = _
    rw [show q0 = q by omega]
  · simp only [List.nil_append, List.mem_singleton] at he
    subst he
    exact Nat.zero_le _
/-- An item whose place is done already. -/
theorem Dj.seen (h : Dj st sts x y fr L Q X) (hp : Q.Perm (e :: Q')) (hs : ∃ a ∈ L, a.key = e.key) : Dj st sts x y fr L Q' X := by
  have hm : ∀ {a}, a ∈ Q ↔ a = e ∨ a ∈ Q' := fun {a} => by rw [hp.mem_iff, List.mem_cons]
  have hsub : ∀ {a}, a ∈ L ++ Q' → a ∈ L ++ Q := fun {a} ha => by
    rcases List.mem_append.1 ha with h1 | h1
    · exact List.mem_append_left _ h1
    · exact List.mem_append_right _ (hm.2 (.inr h1))
  obtain ⟨a, ha, hk⟩ := hs
  have hav := h.itv a (List.mem_append_left _ ha)
  have hev := h.itv e (List.mem_append_right _ (hm.2 (.inl rfl)))
  have hix : a.ix x y = e.ix x y := (It.ix_inj ⟨hav.2.1, hav.2.2.1⟩ ⟨hev.2.1, hev.2.2.1⟩).2 hk
  have hle := h.ord a ha e (hm.2 (.inl rfl))
  have hrep : ∀ {p d : Nat}, (∃ e' ∈ L ++ Q, e'.ix x y = p ∧ e'.c ≤ d) → ∃ e' ∈ L ++ Q', e'.ix x y = p ∧ e'.c ≤ d := by
    rintro p d ⟨b, hb, h1, h2⟩
    rcases List.mem_append.1 hb with h3 | h3
    · exact ⟨b, List.mem_append_left _ h3, h1, h2⟩
    · rcases hm.1 h3 with rfl | h3
      · exact ⟨a, List.mem_append_left _ ha, hix.trans h1, by omega⟩
      · exact ⟨b, List.mem_append_right _ h3, h1, h2⟩
  refine ⟨fun b hb => h.itv b (hsub hb), h.nd, fun k d hi => hrep (h.ini k d hi), fun b hb p w he => ?_, fun b hb b' hb' => h.ord b hb b' (hm.2 (.inr hb')), fun b hb => h.bnd b (hsub hb)⟩
  rcases h.cl b hb p w he with h1 | h1
  · exact .inl h1
  · exact .inr (hrep h1)
/-- The edges of a place from an arc on. -/
def gFrom (sts : List St) (x y : List Int) (fr : Bool) (e : It) (l : List Ar) (k p w : Nat) : Prop := k = e.ix x y ∧ ∃ a ∈ l, ∃ i j, fitN x e.i a.i = some i ∧ fitJ fr y e.j a.o = some j ∧ p = ixW x y a.t.toNat i j ∧ a.w = (w : Int)
/-- Top of the heap: its place is done now, its arcs are to come. -/
structure Dt (st : Int) (sts : List St) (x y : List Int) (fr : Bool) (e : It) (L Q : List It) (l : List Ar) : Prop where
  dj : Dj st sts x y fr L Q (gFrom sts x y fr e l)
  top : ∀ a ∈ L, a.c ≤ e.c
  mem : e ∈ L
  bnd : e.c + 1000000000 ≤ L.length * 1000000000
theorem Dj.new (h : Dj st sts x y fr L Q (fun _ _ _ => False)) (hp : Q.Perm (e :: Q')) (hmin : ∀ a ∈ Q, e.c ≤ a.c) (hs : ∀ a ∈ L, a.key ≠ e.key) {s : St} (hse : sts[e.q]? = some s) : Dt st sts x y fr e (L ++ [e]) Q' s.arcs := by
  have hm : ∀ {a}, a ∈ Q ↔ a = e ∨ a ∈ Q' := fun {a} => by rw [hp.mem_iff, List.mem_cons]
  have hall : ∀ {a}, a ∈ L ++ [e] ++ Q' ↔ a ∈ L ++ Q := fun {a} => by simp [hm]
  have heQ : e ∈ Q := hm.2 (.inl rfl)
  have hev := h.itv e (List.mem_append_right _ heQ)
  have hlen : (L ++ [e]).length = L.length + 1 := by simp
  refine ⟨⟨fun b hb => h.itv b (hall.1 hb), ?_, fun k d hi => ?_, fun b hb p w he => ?_, fun b hb b' hb' => ?_, fun b hb => ?_⟩, fun b hb => ?_, by simp, ?_⟩
  · rw [List.map_append, List.nodup_append]
    refine ⟨h.nd, by simp, fun k hk k' hk' => ?_⟩
    simp only [List.map_cons, List.map_nil, List.mem_singleton] at hk'
    subst hk'
    obtain ⟨a, ha, rfl⟩ := List.mem_map.1 hk
    have hav := h.itv a (List.mem_append_left _ ha)
    exact fun e' => hs a ha ((It.ix_inj ⟨hav.2.1, hav.2.2.1⟩ ⟨hev.2.1, hev.2.2.1⟩).1 e')
  · obtain ⟨b, h1, h2⟩ := h.ini k d hi
    exact ⟨b, hall.2 h1, h2⟩
  · rcases List.mem_append.1 hb with hb | hb
    · rcases h.cl b hb p w he with h1 | ⟨b', h1, h2⟩
      · exact h1.elim
      · exact .inr ⟨b', hall.2 h1, h2⟩
    · simp only [List.mem_singleton] at hb
      subst hb
      obtain ⟨s', t, a, i, j, h1, h2, h3, h4, h5, h6⟩ := he
      simp only [It.ix] at h1 h3 h4
      rw [ix_q hev.2.1 hev.2.2.1, hse] at h1
      simp only [Option.some.injEq] at h1
      subst h1
      rw [ix_i hev.2.1 hev.2.2.1] at h3
      rw [ix_j hev.2.2.1] at h4
      exact .inl ⟨rfl, a, List.mem_of_getElem? h2, i, j, h3, h4, h5, h6⟩
  · rcases List.mem_append.1 hb with hb | hb
    · exact h.ord b hb b' (hm.2 (.inr hb'))
    · simp only [List.mem_singleton] at hb
      subst hb
      exact hmin b' (hm.2 (.inr hb'))
  · have := h.bnd b (hall.1 hb)
    rw [hlen, Nat.add_mul, Nat.one_mul]; exact Nat.le_trans this (Nat.le_add_right _ _)
  · rcases List.mem_append.1 hb with hb | hb
    · exact h.ord b hb e heQ
    · simp only [List.mem_singleton] at hb
      subst hb; exact Nat.le_refl _
  · have := h.bnd e (List.mem_append_right _ heQ)
    rw [hlen, Nat.add_mul, Nat.one_mul]; exact Nat.add_le_add_right this _
theorem Dt.skip {a : Ar} {l : List Ar} (h : Dt st sts x y fr e L Q (a :: l)) (hn : ∀ i j, fitN x e.i a.i = some i → fitJ fr y e.j a.o = some j → False) : Dt st sts x y fr e L Q l := by
  refine ⟨⟨h.dj.itv, h.dj.nd, h.dj.ini, fun b hb p w he => ?_, h.dj.ord, h.dj.bnd⟩, h.top, h.mem, h.bnd⟩
  rcases h.dj.cl b hb p w he with ⟨h1, a', h2, i, j, h3, h4, h5, h6⟩ | h1
  · rcases List.mem_cons.1 h2 with rfl | h2
    · exact (hn i j h3 h4).elim
    · exact .inl ⟨h1, a', h2, i, j, h3, h4, h5, h6⟩
  · exact .inr h1
theorem Dt.push {a : Ar} {l : List Ar} {i j t w : Nat} {s : St} {k : Nat} (h : Dt st sts x y fr e L Q (a :: l)) (hse : sts[e.q]? = some s) (ha : s.arcs[k]? = some a) (hi : fitN x e.i a.i = some i) (hj : fitJ fr y e.j a.o = some j) (ht : a.t = (t : Int)) (htn : t < sts.length) (hw : a.w = (w : Int)) (hwb : w ≤ 1000000000) (hp : Q'.Perm (⟨t, i, j, e.c + w⟩ :: Q)) : Dt st sts x y fr e L Q' l := by
  have hm : ∀ {b}, b ∈ Q' ↔ b = ⟨t, i, j, e.c + w⟩ ∨ b ∈ Q := fun {b} => by rw [hp.mem_iff, List.mem_cons]
  have hall : ∀ {b}, b ∈ L ++ Q' ↔ b = ⟨t, i, j, e.c + w⟩ ∨ b ∈ L ++ Q := fun {b} => by
    simp only [List.mem_append, hm]
    constructor <;> (intro h; rcases h with h | h | h <;> simp [h])
  have hev := h.dj.itv e (List.mem_append_left _ h.mem)
  have hedge : gEdge sts x y fr (e.ix x y) (ixW x y t i j) w := by
    refine ⟨s, k, a, i, j, ?_, ha, ?_, ?_, by rw [ht]; simp, hw⟩
    · simp only [It.ix]; rw [ix_q hev.2.1 hev.2.2.1]; exact hse
    · simp only [It.ix]; rw [ix_i hev.2.1 hev.2.2.1]; exact hi
    · simp only [It.ix]; rw [ix_j hev.2.2.1]; exact hj
  have hkeep : ∀ {p d : Nat}, (∃ e' ∈ L ++ Q, e'.ix x y = p ∧ e'.c ≤ d) → ∃ e' ∈ L ++ Q', e'.ix x y = p ∧ e'.c ≤ d := fun ⟨b, h1, h2⟩ => ⟨b, hall.2 (.inr h1), h2⟩
  refine ⟨⟨fun b hb => ?_, h.dj.nd, fun k d hi => hkeep (h.dj.ini k d hi), fun b hb p v he => ?_, fun b hb b' hb' => ?_, fun b hb => ?_⟩, h.top, h.mem, h.bnd⟩
  · rcases hall.1 hb with rfl | hb
    · exact ⟨htn, fitN_le hi hev.2.1, fitJ_le hj hev.2.2.1, .step _ _ _ _ hev.2.2.2 hedge⟩
    · exact h.dj.itv b hb
  · rcases h.dj.cl b hb p v he with ⟨h1, a', h2, i', j', h3, h4, h5, h6⟩ | h1
    · rcases List.mem_cons.1 h2 with rfl | h2
      · rw [hi] at h3
        rw [hj] at h4
        simp only [Option.some.injEq] at h3 h4
        subst h3 h4
        have hbe : b.c = e.c := by
          have hb1 := h.dj.itv b (List.mem_append_left _ hb)
          obtain ⟨m1, hm1⟩ := List.getElem?_of_mem hb
          obtain ⟨m2, hm2⟩ := List.getElem?_of_mem h.mem
          have e1 : (L.map (It.ix x y))[m1]? = some (b.ix x y) := by simp [hm1]
          have e2 : (L.map (It.ix x y))[m2]? = some (e.ix x y) := by simp [hm2]
          obtain ⟨a1, a2⟩ := List.getElem?_eq_some_iff.1 e1
          obtain ⟨b1, b2⟩ := List.getElem?_eq_some_iff.1 e2
          have : m1 = m2 := (List.getElem_inj h.dj.nd).1 (a2.trans (h1.trans b2.symm))
          subst this
          rw [hm1] at hm2
          simp only [Option.some.injEq] at hm2
          rw [hm2]
        refine .inr ⟨⟨t, i, j, e.c + w⟩, hall.2 (.inl rfl), ?_, ?_⟩
        · rw [h5, ht]; simp [It.ix]
        · show e.c + w ≤ b.c + v
          omega
      · exact .inl ⟨h1, a', h2, i', j', h3, h4, h5, h6⟩
    · exact .inr (hkeep h1)
  · rcases hm.1 hb' with rfl | hb'
    · have := h.top b hb
      show b.c ≤ e.c + w
      omega
    · exact h.dj.ord b hb b' hb'
  · rcases hall.1 hb with rfl | hb
    · have := h.bnd
      show e.c + w ≤ _
      omega
    · exact h.dj.bnd b hb
theorem Dt.done (h : Dt st sts x y fr e L Q []) : Dj st sts x y fr L Q (fun _ _ _ => False) := by
  refine ⟨h.dj.itv, h.dj.nd, h.dj.ini, fun b hb p w he => ?_, h.dj.ord, h.dj.bnd⟩
  rcases h.dj.cl b hb p w he with ⟨_, a', h2, _⟩ | h1
  · cases h2
  · exact .inr h1
theorem Dj.all (h : Dj st sts x y fr L [] (fun _ _ _ => False)) {p d : Nat} (hp : Pth (gInit st x y) (gEdge sts x y fr) p d) : ∃ e ∈ L, e.ix x y = p ∧ e.c ≤ d := by
  have h0 : ∀ {p d : Nat}, (∃ e' ∈ L ++ [], e'.ix x y = p ∧ e'.c ≤ d) → ∃ e' ∈ L, e'.ix x y = p ∧ e'.c ≤ d := fun h => by simpa using h
  induction hp with
  | init q d h1 => exact h0 (h.ini q d h1)
  | step q p d w h1 h2 ih =>
    obtain ⟨b, hb, h3, h4⟩ := ih
    subst h3
    rcases h.cl b hb p w h2 with h5 | h5
    · exact h5.elim
    · obtain ⟨b', h6, h7, h8⟩ := h0 h5
      exact ⟨b', h6, h7, by omega⟩
theorem Dj.dst (h : Dj st sts x y fr L [] (fun _ _ _ => False)) (hN : L.length ≤ 100000) (he : e ∈ L) : gDst st sts x y fr (e.ix x y) = e.c ∧ e.c < big := by
  have hbig := big_eq
  have hb := h.bnd e (by simpa using he)
  have hlt : e.c < big := by omega
  obtain ⟨d1, d2, d3⟩ := dst_spec (Init := gInit st x y) (Edge := gEdge sts x y fr) (e.ix x y)
  have hev := h.itv e (by simpa using he)
  have h1 := d3 _ hev.2.2.2
  obtain ⟨b, hb1, hb2, hb3⟩ := h.all (d2 (by omega))
  have hbe : b.c = e.c := by
    obtain ⟨m1, hm1⟩ := List.getElem?_of_mem hb1
    obtain ⟨m2, hm2⟩ := List.getElem?_of_mem he
    have e1 : (L.map (It.ix x y))[m1]? = some (b.ix x y) := by simp [hm1]
    have e2 : (L.map (It.ix x y))[m2]? = some (e.ix x y) := by simp [hm2]
    obtain ⟨a1, a2⟩ := List.getElem?_eq_some_iff.1 e1
    obtain ⟨b1, b2⟩ := List.getElem?_eq_some_iff.1 e2
    have : m1 = m2 := (List.getElem_inj h.nd).1 (a2.trans (hb2.trans b2.symm))
    subst this
    rw [hm1] at hm2
    simp only [Option.some.injEq] at hm2
    rw [hm2]
  unfold gDst
  exact ⟨by omega, hlt⟩

theorem Btw.nil : Btw sts x y [] (-1) := .inl ⟨rfl, by simp⟩
theorem Btw.skip {b : Int} (h : Btw sts x y L b) (hn : ∀ c, ¬ gEnd sts x y e c) : Btw sts x y (L ++ [e]) b := by
  rcases h with ⟨h1, h2⟩ | ⟨c, h1, ⟨a, ha, h2⟩, h3⟩
  · refine .inl ⟨h1, fun a ha => ?_⟩
    rcases List.mem_append.1 ha with ha | ha
    · exact h2 a ha
    · simp only [List.mem_singleton] at ha; subst ha; exact hn
  · refine .inr ⟨c, h1, ⟨a, List.mem_append_left _ ha, h2⟩, fun a ha c' hc => ?_⟩
    rcases List.mem_append.1 ha with ha | ha
    · exact h3 a ha c' hc
    · simp only [List.mem_singleton] at ha; subst ha; exact (hn c' hc).elim
theorem Btw.put {b : Int} {c : Nat} (h : Btw sts x y L b) (he : gEnd sts x y e c) : Btw sts x y (L ++ [e]) (if b < 0 ∨ (c : Int) < b then (c : Int) else b) := by
  have hu : ∀ c', gEnd sts x y e c' → c' = c := by
    rintro c' ⟨_, _, s, h1, _, h2⟩
    obtain ⟨_, _, s', h3, _, h4⟩ := he
    rw [h1] at h3
    simp only [Option.some.injEq] at h3
    subst h3
    omega
  rcases h with ⟨h1, h2⟩ | ⟨c0, h1, ⟨a, ha, h2⟩, h3⟩
  · rw [if_pos (.inl (by omega))]
    refine .inr ⟨c, rfl, ⟨e, by simp, he⟩, fun a ha c' hc => ?_⟩
    rcases List.mem_append.1 ha with ha | ha
    · exact (h2 a ha c' hc).elim
    · simp only [List.mem_singleton] at ha; subst ha; have := hu c' hc; omega
  · by_cases hlt : (c : Int) < b
    · rw [if_pos (.inr hlt)]
      refine .inr ⟨c, rfl, ⟨e, by simp, he⟩, fun a ha c' hc => ?_⟩
      rcases List.mem_append.1 ha with ha | ha
      · have := h3 a ha c' hc; omega
      · simp only [List.mem_singleton] at ha; subst ha; have := hu c' hc; omega
    · rw [if_neg (by rintro (h | h) <;> omega)]
      refine .inr ⟨c0, h1, ⟨a, List.mem_append_left _ ha, h2⟩, fun a ha c' hc => ?_⟩
      rcases List.mem_append.1 ha with ha | ha
      · exact h3 a ha c' hc
      · simp only [List.mem_singleton] at ha; subst ha; have := hu c' hc; omega
/-- What the heap found is what there is to find. -/
theorem Btw.done {b : Int} (h : Btw sts x y L b) (hj : Dj st sts x y fr L [] (fun _ _ _ => False)) (hN : L.length ≤ 100000) (hf : ∀ s ∈ sts, 0 ≤ s.fin ∧ s.fin ≤ 1000000001) : (b = -1 ∧ gBest st sts x y fr = big) ∨ ∃ c : Nat, b = (c : Int) ∧ c < big ∧ gBest st sts x y fr = c := by
  have hbig := big_eq
  have hway : ∀ c, gWay sts x y (gDst st sts x y fr) sts.length c ↔ ∃ e ∈ L, gEnd sts x y e c := by
    intro c
    constructor
    · rintro ⟨q, d, s, h1, h2, h3, h4, h5, h6⟩
      obtain ⟨d1, d2, d3⟩ := dst_spec (Init := gInit st x y) (Edge := gEdge sts x y fr) (ixW x y q x.length y.length)
      have hd : Pth (gInit st x y) (gEdge sts x y fr) (ixW x y q x.length y.length) d := by
        rw [← h4]; refine d2 ?_
        unfold gDst at h4; omega
      obtain ⟨e, he1, he2, he3⟩ := hj.all hd
      have hev := hj.itv e (by simpa using he1)
      have hk := (It.ix_inj (a := e) (b := ⟨q, x.length, y.length, 0⟩) ⟨hev.2.1, hev.2.2.1⟩ ⟨Nat.le_refl _, Nat.le_refl _⟩).1 he2
      simp only [It.key, Prod.mk.injEq] at hk
      have hc := (hj.dst hN he1).1
      rw [he2, h4] at hc
      refine ⟨e, he1, by omega, by omega, s, ?_, h3, by omega⟩
      rw [show e.q = q by omega]; exact h2
    · rintro ⟨e, he, h1, h2, s, h3, h4, h5⟩
      obtain ⟨hc1, hc2⟩ := hj.dst hN he
      refine ⟨e.q, e.c, s, (List.getElem?_eq_some_iff.1 h3).1, h3, h4, ?_, by omega, h5⟩
      rw [← hc1, ← h1, ← h2]
  rcases h with ⟨h1, h2⟩ | ⟨c, h1, ⟨a, ha, h2⟩, h3⟩
  · refine .inl ⟨h1, (mnB_eq (Nat.le_refl _) (fun h => absurd h (by omega)) fun d hd => ?_).symm⟩
    obtain ⟨e, he, h3⟩ := (hway d).1 hd
    exact (h2 e he d h3).elim
  · have hcb : c < big := by
      obtain ⟨_, _, s, h4, h5, h6⟩ := h2
      have := hf s (List.mem_of_getElem? h4)
      have := hj.bnd a (by simpa using ha)
      omega
    refine .inr ⟨c, h1, hcb, (mnB_eq (by omega) (fun _ => (hway c).2 ⟨a, ha, h2⟩) fun d hd => ?_).symm⟩
    obtain ⟨e, he, h4⟩ := (hway d).1 hd
    exact .inl (h3 e he d h4)
/-- Nothing to begin with. -/
theorem gBest_none (h : ∀ q : Nat, st ≠ (q : Int)) : gBest st sts x y fr = big := by
  have hno : ∀ p d, ¬ Pth (gInit st x y) (gEdge sts x y fr) p d := by
    intro p d hp
    induction hp with
    | init q d h1 => obtain ⟨q', h2, _⟩ := h1; exact h q' h2
    | step q p d w h1 h2 ih => exact ih
  refine (mnB_eq (Nat.le_refl _) (fun h => absurd h (by omega)) fun c hc => ?_).symm
  obtain ⟨q, d, s, h1, h2, h3, h4, h5, h6⟩ := hc
  obtain ⟨d1, d2, d3⟩ := dst_spec (Init := gInit st x y) (Edge := gEdge sts x y fr) (ixW x y q x.length y.length)
  refine absurd (d2 ?_) (hno _ _)
  unfold gDst at h4
  omega
end
end Go.Proofs.Ytnpbdcjfealoeaa
