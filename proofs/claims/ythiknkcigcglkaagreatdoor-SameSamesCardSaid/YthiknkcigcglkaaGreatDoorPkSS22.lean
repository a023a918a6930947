/- Part 22 of what the law SameSames rests on. -/
import Derived.Test.YthiknkcigcglkaaGreatDoorPkSS19
namespace Go.Proofs.YthiknkcigcglkaaGreatDoor
open Go.RowKit
open Go.Proofs.Tryz
open List (all_cons cons_append ext_getElem? getD_eq_getElem?_getD length_map map_append map_cons map_set mem_cons mem_of_getElem? nil_append not_mem_nil take_of_length_le)
open Nat (reduceLT)
set_option linter.unusedSimpArgs false
set_option linter.unusedVariables false
set_option maxRecDepth 100000
set_option maxHeartbeats 8000000
variable {i k n p0 q q0 v : Nat} {d d' : Nat → Nat → Nat} {sts : List St} {l : List Ar} {a : Ar}
def FM : Fam (List Nat) := ⟨3, 1, 8, fun _ => [], fun r => r.map vp⟩
theorem wG : ∀ x : List Nat, ∀ l ∈ FM.it x, l.length = FM.sz := by
 intro x l hl; obtain ⟨_, _, rfl⟩ := List.mem_map.1 hl; rfl
theorem jl4 (r : List Nat) (i v : Nat) : FM.it (r.set i v) = (FM.it r).set i (vp v) := by simp [FM, List.map_set]
theorem qX0 {r : List Nat} (h : r[i]? = some v) : (FM.it r)[i]? = some (vp v) := by simp [FM, h]
theorem qX1 (r : List Nat) : (FM.it r).length = r.length := by simp [FM]
theorem qX2 (r : List Nat) (h : r.length = n) (hn : 0 < n) : (FM.it r).isEmpty = false := by
 cases r with
 | nil => simp at h; omega
 | cons => rfl
theorem jl5 (k : Nat) (r : List Nat) (h : r.length = n) (hn : 0 < n) : FM.ownV k r = .own k 1 n false := by
 unfold Fam.ownV; rw [qX1, h, qX2 r h hn]; rfl
theorem jS8 (r : List Nat) (h : r.length = n) (hn : 0 < n) : FM.row r = ⟨3, r.map V.n, false, 1⟩ := by
 unfold Fam.row; rw [qX2 r h hn]
 have : ((FM.it r).flatten.map V.d) = r.map V.n := by
  simp only [FM]; clear h
  induction r with
  | nil => rfl
  | cons x r ih => simp only [map_cons, List.flatten_cons, map_append, ih]; rfl
 rw [this]; rfl
abbrev qi3 (r : List Nat) : List D := [.sl 1 8 (r.map vp)]
theorem qK6 (y : Ar) (b : Bool) (hb : emp y = b) : Fn prog 43 [.agg ((arD y).map V.d)] (fun v => v = .b b) := by
 subst hb; obtain ⟨yi, yo, yw, yt⟩ := y; refine qc 11 fun w0 out => ?_
 by_cases h1 : yi = 0
 ·by_cases h2 : yo = 0
  ·skip
   refine q33 ?_; exact ⟨[_], ⟨rfl, trivial⟩, by simp [zZ, emp, h1, h2], zU2⟩
  skip; refine q33 ?_; exact ⟨[_], ⟨rfl, trivial⟩, by simp [zZ, emp, h1, h2], zU2⟩
 skip; refine q33 ?_; exact ⟨[_], ⟨rfl, trivial⟩, by simp [zZ, emp, h1], zU2⟩
def mix (sts : List St) (k q0 p0 q p : Nat) : Nat := if q < q0 ∨ q = q0 ∧ p < p0 then fw sts (k + 1) q p else fw sts k q p
def mt (d : Nat → Nat → Nat) (n : Nat) : List (List Nat) := bl (fun q => bl (d q) n) n
theorem qX3 (h : q < n) : (mt d n)[q]? = some (bl (d q) n) := w8 h
theorem jl6 (d : Nat → Nat → Nat) (n : Nat) : (mt d n).length = n := w4 _ _
theorem q76 (h : ∀ q p, q < n → p < n → d q p = d' q p) : mt d n = mt d' n := wh fun q hq => wh fun p hp => h q p hq hp
theorem jl7 (sts : List St) (k : Nat) (n : Nat) : mt (mix sts k 0 0) n = mt (fw sts k) n := q76 fun q p _ _ => by unfold mix; rw [if_neg zg]
theorem jI0 (sts : List St) (k q0 n : Nat) : mt (mix sts k q0 n) n = mt (mix sts k (q0 + 1) 0) n := q76 fun q p _ hp => by
 unfold mix
 by_cases h : q < q0 ∨ q = q0 ∧ p < n
 ·rw [if_pos h, if_pos zg]
 rw [if_neg h, if_neg zg]
theorem jI1 (sts : List St) (k n : Nat) : mt (mix sts k n 0) n = mt (fw sts (k + 1)) n := q76 fun q p hq _ => by unfold mix; rw [if_pos zg]
theorem jw9 (h : fw sts (k + 1) q0 p0 = fw sts k q0 p0) : mt (mix sts k q0 (p0 + 1)) n = mt (mix sts k q0 p0) n := q76 fun q p _ _ => by
 unfold mix
 by_cases e : q = q0 ∧ p = p0
 ·obtain ⟨rfl, rfl⟩ := e
  rw [if_pos zg, if_neg zg, h]
 by_cases h2 : q < q0 ∨ q = q0 ∧ p < p0
 ·rw [if_pos zg, if_pos h2]
 rw [if_neg zg, if_neg h2]
theorem jI2 (hq : q0 < n) (hp : p0 < n) : (mt (mix sts k q0 p0) n).set q0 ((bl (mix sts k q0 p0 q0) n).set p0 (fw sts (k + 1) q0 p0)) = mt (mix sts k q0 (p0 + 1)) n := by
 have e1 : ∀ q p, ¬ (q = q0 ∧ p = p0) → mix sts k q0 p0 q p = mix sts k q0 (p0 + 1) q p := fun q p e => by
  unfold mix
  by_cases h2 : q < q0 ∨ q = q0 ∧ p < p0
  ·rw [if_pos h2, if_pos zg]
  rw [if_neg h2, if_neg zg]
 refine bf hq ?_ fun q _ zT => wh fun p _ => e1 q p fun h => zT h.1
 refine (bf hp ?_ fun p _ zT => e1 q0 p fun h => zT h.2).symm
 unfold mix; rw [if_pos zg]
theorem j72 (ha : l[i]? = some a) (h : emp a = true → ∀ p : Nat, a.t = (p : Int) → p < n → ¬ a.w < ((mnA p (fwI q p) (l.take i) : Nat) : Int)) : bl (fun r => mnA r (fwI q r) (l.take (i + 1))) n = bl (fun r => mnA r (fwI q r) (l.take i)) n :=
 wh fun r hr => by
  rw [qu2 _ _ ha]; unfold mnS; rw [if_neg]; rintro ⟨h1, h2, h3⟩; exact h h1 r h2 hr h3
theorem jS9 {p w : Nat} (ha : l[i]? = some a) (he : emp a = true) (hp : a.t = (p : Int)) (wa : p < n) (hw : a.w = (w : Int)) (zk : w < mnA p (fwI q p) (l.take i)) : (bl (fun r => mnA r (fwI q r) (l.take i)) n).set p w = bl (fun r => mnA r (fwI q r) (l.take (i + 1))) n := by
 refine bf wa ?_ fun r _ zT => ?_
 ·rw [qu2 _ _ ha]
  unfold mnS; rw [if_pos ⟨he, hp, by omega⟩]; omega
 rw [qu2 _ _ ha]; unfold mnS; rw [if_neg]; rintro ⟨_, h2, _⟩; omega
theorem jI3 (m : zr) (h0 : zn m = 0) : Fn prog 54 [mV m] (fun v => v = .d (.sl 1 24 ((mt (hop m.states) m.states.length).map qi3))) := by
 have hz := xj h0; clear h0; have gI := yz; obtain ⟨st, sts⟩ := m; simp only at hz ⊢; obtain ⟨n, hn⟩ : ∃ n, sts.length = n := ⟨_, rfl⟩; obtain ⟨hz1, hz2, hz3, hz4⟩ := hz; rw [hn] at hz1 hz3 hz4 ⊢
 have hw : ∀ q, ∀ a ∈ stA sts q, 0 ≤ a.w := by
  intro q a ha
  by_cases hql : q < n
  ·obtain ⟨x, hx⟩ := zl hn hql
   rw [wo hx] at ha; have h3 := (hz4 x (mem_of_getElem? hx)).2 a ha; simp only [xl, decide_eq_true_eq] at h3; omega
  rw [stA, getD_eq_getElem?_getD, List.getElem?_eq_none zg] at ha; simp at ha
 have ur : mt (fw sts n) n = mt (hop sts) n := q76 fun q p _ hp => jS6 hw hn hp
 rw [← ur]
 have x6 := fun k => qz6 hw k
 have vi := jS4 hw; have k74 := jS5 hw; clear ur hw; refine qc 163 fun w0 out => ?_; refine W7 ?_; refine W60 ?_; apply qg; refine qB 4 901 1 42 rfl zT4 ?_; refine zW ?_
 refine qb (fun s' => ∃ (q : Nat) (L : List (List Nat)), q ≤ n ∧ L.length = q ∧ L = bl (fun q => bl (fw sts 0 q) n) q ∧ s' = ⟨163, [(1, .ref 1 0), (3, .i n), (4, .own 901 1 q (decide (q = 0))), (5, .i q)], [(1, ⟨24, [.i st, .d (zq sts)], false, 0⟩), (901, ⟨42, FM.cells 1000 L, decide (q = 0), 1⟩)] ++ FM.objs 1000 L, []⟩) (fun s' => n - s'.nat 5) ⟨_, ?_, 0, [], by omega, rfl, rfl, rfl⟩ ?_
 ·exact qd
 rintro s' ⟨q, L, hq, hLl, hL, rfl⟩
 by_cases zk : q < n
 ·have hn0 : 0 < n := by omega
  obtain ⟨x, hx⟩ := zl hn zk; have hxa : stA sts q = x.arcs := wo hx; have hxl := qp9 (mem_of_getElem? hx); have hxm := (hz4 x (mem_of_getElem? hx)).2; obtain ⟨la, xr⟩ : ∃ la, x.arcs.length = la := ⟨_, rfl⟩
  have xM : (FM.cells 1000 L).length = q * 1 := by rw [Fam.cells_len (m := 0) (fun _ => rfl), hLl]
  refine wn ?_; refine q9 rfl (vg 22 V.i (0) underlying42 zz rfl rfl rfl rfl rfl zg zj (by first | rfl | (simp only [S.clean, S.put, S.newObj, all_cons, zP, reduceLT]; simp [S.forget, V.has, V.hasL, zV, xg, V.cs, xm, xF, xG, xc, x4, zE, zA, zL, xL, xC, nb1, nb2, nb3, nb4, -map_set]; try omega)) rfl) ?_; refine x8 ?_
  refine qb (fun s' => ∃ (k : Nat) (R : List Nat), k ≤ n ∧ R.length = n ∧ (∀ j, j < k → R[j]? = some big) ∧ s' = ⟨163, [(1, .ref 1 0), (3, .i n), (4, .own 901 1 q (decide (q = 0))), (5, .i q), (6, .own 22 1 n false), (7, .i k)], [(1, ⟨24, [.i st, .d (zq sts)], false, 0⟩), (22, ⟨3, R.map V.n, false, 1⟩), (901, ⟨42, FM.cells 1000 L, decide (q = 0), 1⟩)] ++ FM.objs 1000 L, []⟩) (fun s' => n - s'.nat 7) ⟨_, ?_, 0, List.replicate n 0, by omega, by simp, (fun j h => absurd h zg), rfl⟩ ?_
  ·have hz : (List.replicate n (0 : Int)).map V.i = (List.replicate n 0).map V.n := by simp
   rw [hz]; exact qd
  rintro s' ⟨k, R, hk, hRl, hR, rfl⟩
  by_cases qu8 : k < n
  ·have hkR : k < R.length := by omega
   refine vF ?_; refine qf rfl (zX (v := big) zz rfl rfl rfl rfl rfl rfl rfl rfl zT9) ?_; refine zY ?_; refine ⟨_, ?_, ⟨k + 1, R.set k big, by omega, by simpa using hRl, fun j hj => ?_, rfl⟩, ?_⟩
   ·exact qd
   ·rw [List.getElem?_set]
    by_cases e : k = j
    ·subst e; simp [hkR]
    rw [if_neg e]; exact hR j zg
   exact zM
  have hRq : R.set q 0 = bl (fun r => mnA r (fwI q r) (x.arcs.take 0)) n := by
   refine ext_getElem? fun j => ?_
   by_cases hj : j < n
   ·rw [w8 hj, List.getElem?_set]
    by_cases e : q = j
    ·subst e; rw [if_pos rfl, if_pos zg]; simp [fwI, mnA]
    rw [if_neg e, hR j zg]; simp [fwI, mnA, Ne.symm e]
   rw [List.getElem?_eq_none (by simp; omega), List.getElem?_eq_none (by simp [bl]; omega)]
  have hqR : q < R.length := by omega
  refine wn ?_; refine qf rfl (zX (v := 0) zz rfl rfl rfl rfl rfl rfl rfl rfl zT9) ?_; refine W53 ?_; apply qg; rw [hRq]; refine zW ?_
  refine qb (fun s' => ∃ (i : Nat) (R : List Nat), i ≤ la ∧ R = bl (fun r => mnA r (fwI q r) (x.arcs.take i)) n ∧ s' = ⟨163, [(1, .ref 1 0), (3, .i n), (4, .own 901 1 q (decide (q = 0))), (5, .i q), (6, .own 22 1 n false), (8, .d (zU x.arcs)), (9, .i i)], [(1, ⟨24, [.i st, .d (zq sts)], false, 0⟩), (22, ⟨3, R.map V.n, false, 1⟩), (901, ⟨42, FM.cells 1000 L, decide (q = 0), 1⟩)] ++ FM.objs 1000 L, []⟩) (fun s' => la - s'.nat 9) ⟨_, ?_, 0, _, by omega, rfl, rfl⟩ ?_
  ·exact qd
  clear hRq hqR hR hRl; rintro s' ⟨i, R, hi, hR, rfl⟩; have hRl : R.length = n := by rw [hR, w4]
  by_cases k75 : i < la
  ·obtain ⟨a, ha⟩ := zl xr k75
   have h3 := hxm a (mem_of_getElem? ha); simp only [xl, decide_eq_true_eq] at h3; obtain ⟨e, he⟩ : ∃ e, emp a = e := ⟨_, rfl⟩; have hem := qK6 a e he; obtain ⟨ai, ao, aw, at'⟩ := a; simp only at h3; obtain ⟨v, rfl⟩ := Int.eq_ofNat_of_zero_le h3.2.2.1.1; obtain ⟨p, rfl⟩ := Int.eq_ofNat_of_zero_le h3.2.2.2.1; have wa : p < n := by omega
   have hpR : R[p]? = some (mnA p (fwI q p) (x.arcs.take i)) := by rw [hR]; exact w8 wa
   obtain ⟨y, hy⟩ : ∃ y, mnA p (fwI q p) (x.arcs.take i) = y := ⟨_, rfl⟩; rw [hy] at hpR
   cases e with
   | false =>
    have hs := j72 (q := q) (n := n) ha (fun h => by rw [he] at h; cases h)
    refine W60 ?_; refine qP (N := ?N248) (l := #[false, false, false, false, false, false, false, false, false, false, false, false, false, false, false, false, false, false, false, false, false]) 21 zh rfl rfl ?_ ?_
    rotate_left
    refine W61 ?_; refine ql (i := 2) rfl rfl rfl (fun _ _ h => h) zh rfl (x7 underlying33 zO rfl rfl rfl rfl zm) ?_; refine W80 ?_; refine ST.rd rfl (q07 underlying47 rfl zO rfl rfl rfl rfl) ?_; refine jr0 ?_; refine ji (post := ?pc248) (zS (args := [_]) ?hc248 ⟨func43, rfl, rfl, rfl, rfl⟩ rfl rfl rfl rfl) ?_
    case hc248 => exact hem
    rintro _ rfl -; refine jq5 ?_; refine qG (i := 6) rfl rfl (by first | exact .inl ⟨_, rfl, rfl⟩ | exact .inr ⟨_, rfl, rfl⟩) rfl (fun _ _ h => h) zh rfl ?_; refine qG (i := 7) rfl rfl (by first | exact .inl ⟨_, rfl, rfl⟩ | exact .inr ⟨_, rfl, rfl⟩) rfl (fun _ _ h => h) zh rfl ?_
    refine qG (i := 8) rfl rfl (by first | exact .inl ⟨_, rfl, rfl⟩ | exact .inr ⟨_, rfl, rfl⟩) rfl (fun _ _ h => h) zh rfl ?_; refine qG (i := 9) rfl rfl (by first | exact .inl ⟨_, rfl, rfl⟩ | exact .inr ⟨_, rfl, rfl⟩) rfl (fun _ _ h => h) zh rfl ?_; refine qG (i := 10) rfl rfl (by first | exact .inl ⟨_, rfl, rfl⟩ | exact .inr ⟨_, rfl, rfl⟩) rfl (fun _ _ h => h) zh rfl ?_
    refine qG (i := 11) rfl rfl (by first | exact .inl ⟨_, rfl, rfl⟩ | exact .inr ⟨_, rfl, rfl⟩) rfl (fun _ _ h => h) zh rfl ?_; refine qG (i := 12) rfl rfl (by first | exact .inl ⟨_, rfl, rfl⟩ | exact .inr ⟨_, rfl, rfl⟩) rfl (fun _ _ h => h) zh rfl ?_; refine qG (i := 13) rfl rfl (by first | exact .inl ⟨_, rfl, rfl⟩ | exact .inr ⟨_, rfl, rfl⟩) rfl (fun _ _ h => h) zh rfl ?_
    refine qG (i := 14) rfl rfl (by first | exact .inl ⟨_, rfl, rfl⟩ | exact .inr ⟨_, rfl, rfl⟩) rfl (fun _ _ h => h) zh rfl ?_; refine qG (i := 15) rfl rfl (by first | exact .inl ⟨_, rfl, rfl⟩ | exact .inr ⟨_, rfl, rfl⟩) rfl (fun _ _ h => h) zh rfl ?_; refine qG (i := 16) rfl rfl (by first | exact .inl ⟨_, rfl, rfl⟩ | exact .inr ⟨_, rfl, rfl⟩) rfl (fun _ _ h => h) zh rfl ?_
    refine qG (i := 17) rfl rfl (by first | exact .inl ⟨_, rfl, rfl⟩ | exact .inr ⟨_, rfl, rfl⟩) rfl (fun _ _ h => h) zh rfl ?_; refine qG (i := 18) rfl rfl (by first | exact .inl ⟨_, rfl, rfl⟩ | exact .inr ⟨_, rfl, rfl⟩) rfl (fun _ _ h => h) zh rfl ?_; refine qG (i := 19) rfl rfl (by first | exact .inl ⟨_, rfl, rfl⟩ | exact .inr ⟨_, rfl, rfl⟩) rfl (fun _ _ h => h) zh rfl ?_; refine W43 ?_
    show Less _ _
    exact jg _; refine W1 ?_; refine qa3 ?_; refine x8 ?_; refine ⟨_, ?_, ⟨i + 1, R, by omega, by rw [hs, hR], rfl⟩, ?_⟩
    ·exact qd
    exact zM
   | true =>
    by_cases hv : v < y
    ·have hs := jS9 (q := q) (n := n) ha he rfl wa rfl (by rw [hy]; exact hv)
     rw [← hR] at hs; have kc1 : p < R.length := by omega
     refine W60 ?_; refine qP (N := ?N250) (l := #[false, false, false, false, false, false, false, false, false, false, false, false, false, false, false, false, false, false, false, false, false]) 21 zh rfl rfl ?_ ?_
     rotate_left
     refine W61 ?_; refine ql (i := 2) rfl rfl rfl (fun _ _ h => h) zh rfl (x7 underlying33 zO rfl rfl rfl rfl zm) ?_; refine W80 ?_; refine ST.rd rfl (q07 underlying47 rfl zO rfl rfl rfl rfl) ?_; refine jr0 ?_; refine ji (post := ?pc250) (zS (args := [_]) ?hc250 ⟨func43, rfl, rfl, rfl, rfl⟩ rfl rfl rfl rfl) ?_
     case hc250 => exact hem
     rintro _ rfl -; refine jq5 ?_; refine jM4 ?_; refine qv (i := 8) rfl rfl rfl rfl (fun _ _ h => h) zh rfl (x7 underlying33 zO rfl rfl rfl rfl zm) ?_; refine qv (i := 9) rfl rfl rfl rfl (fun _ _ h => h) zh rfl (gn underlying47 rfl rfl rfl zz zj rfl) ?_; refine jM2 ?_; refine qv (i := 13) rfl rfl rfl rfl (fun _ _ h => h) zh rfl (vC rfl rfl) ?_
     refine qv (i := 14) rfl rfl rfl rfl (fun _ _ h => h) zh rfl (x7 underlying33 zO rfl rfl rfl rfl zm) ?_; refine qv (i := 15) rfl rfl rfl rfl (fun _ _ h => h) zh rfl (gn underlying47 rfl rfl rfl zz zj rfl) ?_; refine qy (i := 10) (j := 16) zh ?_ ?_
     ·refine bM ?_
      refine ST.rd rfl (vE underlying3 rfl rfl rfl rfl) ?_; refine qp (i := 16) zh ?_; refine bM ?_; refine ST.rd rfl (vE underlying3 rfl rfl rfl rfl) ?_; refine qv (i := 17) rfl rfl rfl rfl (fun _ _ h => h) zh rfl (vj underlying42 zz rfl rfl rfl rfl zT9) ?_; refine jc3 ?_; refine ST.rd rfl (w6 underlying3 rfl rfl rfl rfl rfl rfl zm) ?_; refine jq8 ?_
      show Less _ _
      exact jg _
     ·refine bM ?_
      refine ST.rd rfl (vE underlying3 rfl rfl rfl rfl) ?_; refine qv (i := 17) rfl rfl rfl rfl (fun _ _ h => h) zh rfl (vj underlying42 zz rfl rfl rfl rfl zT9) ?_; refine qy (i := 10) (j := 18) zh ?_ ?_
      ·refine bM ?_
       refine ST.rd rfl (vE underlying3 rfl rfl rfl rfl) ?_; refine jc3 ?_; refine ST.rd rfl (w6 underlying3 rfl rfl rfl rfl rfl rfl zm) ?_; refine jq8 ?_
       show Less _ _
       refine qP6 ?_; exact (Less.of rfl (by repeat (first | exact trivial | refine ⟨⟨_, rfl, Wk.refl _⟩, ?_⟩)) (by repeat (first | exact trivial | refine ⟨rfl, ?_⟩ | exact LH.fam | refine LH.skip zj ?_)) rfl)
      refine bM ?_; refine ST.rd rfl (w6 underlying3 rfl rfl rfl rfl rfl rfl zm) ?_; refine qp (i := 10) zh ?_; refine bM ?_; refine ST.rd rfl (vE underlying3 rfl rfl rfl rfl) ?_; refine jq8 ?_
      show Less _ _
      refine qP6 ?_; exact (Less.of rfl (by repeat (first | exact trivial | refine ⟨⟨_, rfl, Wk.refl _⟩, ?_⟩)) (by repeat (first | exact trivial | refine ⟨rfl, ?_⟩ | exact LH.fam | refine LH.skip zj ?_)) rfl)
     refine W1 ?_; refine qa3 ?_; refine Dv ?_; refine jK7 ?_; refine W85 ?_; refine qo rfl rfl rfl (zX (v := v) zz rfl rfl rfl rfl rfl rfl rfl rfl zT9) ?_; refine qf1 ?_; refine ⟨_, ?_, ⟨i + 1, R.set p v, by omega, hs, rfl⟩, ?_⟩
     ·exact qd
     exact zM
    have hs := j72 (q := q) (n := n) ha (fun _ p' hp' _ => by
     simp only [Int.natCast_inj] at hp'; subst hp'
     rw [hy]; simp only; omega)
    refine W60 ?_; refine qP (N := ?N252) (l := #[false, false, false, false, false, false, false, false, false, false, false, false, false, false, false, false, false, false, false, false, false]) 21 zh rfl rfl ?_ ?_
    rotate_left
    refine W61 ?_; refine ql (i := 2) rfl rfl rfl (fun _ _ h => h) zh rfl (x7 underlying33 zO rfl rfl rfl rfl zm) ?_; refine W80 ?_; refine ST.rd rfl (q07 underlying47 rfl zO rfl rfl rfl rfl) ?_; refine jr0 ?_; refine ji (post := ?pc252) (zS (args := [_]) ?hc252 ⟨func43, rfl, rfl, rfl, rfl⟩ rfl rfl rfl rfl) ?_
    case hc252 => exact hem
    rintro _ rfl -; refine jq5 ?_; refine jM4 ?_; refine qv (i := 8) rfl rfl rfl rfl (fun _ _ h => h) zh rfl (x7 underlying33 zO rfl rfl rfl rfl zm) ?_; refine qv (i := 9) rfl rfl rfl rfl (fun _ _ h => h) zh rfl (gn underlying47 rfl rfl rfl zz zj rfl) ?_; refine jM2 ?_; refine qv (i := 13) rfl rfl rfl rfl (fun _ _ h => h) zh rfl (vC rfl rfl) ?_
    refine qv (i := 14) rfl rfl rfl rfl (fun _ _ h => h) zh rfl (x7 underlying33 zO rfl rfl rfl rfl zm) ?_; refine qv (i := 15) rfl rfl rfl rfl (fun _ _ h => h) zh rfl (gn underlying47 rfl rfl rfl zz zj rfl) ?_; refine qy (i := 10) (j := 16) zh ?_ ?_
    ·refine bM ?_
     refine ST.rd rfl (vE underlying3 rfl rfl rfl rfl) ?_; refine qp (i := 16) zh ?_; refine bM ?_; refine ST.rd rfl (vE underlying3 rfl rfl rfl rfl) ?_; refine qv (i := 17) rfl rfl rfl rfl (fun _ _ h => h) zh rfl (vj underlying42 zz rfl rfl rfl rfl zT9) ?_; refine jc3 ?_; refine ST.rd rfl (w6 underlying3 rfl rfl rfl rfl rfl rfl zm) ?_; refine jq9 ?_
     show Less _ _
     exact jg _
    ·refine bM ?_
     refine ST.rd rfl (vE underlying3 rfl rfl rfl rfl) ?_; refine qv (i := 17) rfl rfl rfl rfl (fun _ _ h => h) zh rfl (vj underlying42 zz rfl rfl rfl rfl zT9) ?_; refine qy (i := 10) (j := 18) zh ?_ ?_
     ·refine bM ?_
      refine ST.rd rfl (vE underlying3 rfl rfl rfl rfl) ?_; refine jc3 ?_; refine ST.rd rfl (w6 underlying3 rfl rfl rfl rfl rfl rfl zm) ?_; refine jq9 ?_
      show Less _ _
      refine qP6 ?_; exact (Less.of rfl (by repeat (first | exact trivial | refine ⟨⟨_, rfl, Wk.refl _⟩, ?_⟩)) (by repeat (first | exact trivial | refine ⟨rfl, ?_⟩ | exact LH.fam | refine LH.skip zj ?_)) rfl)
     refine bM ?_; refine ST.rd rfl (w6 underlying3 rfl rfl rfl rfl rfl rfl zm) ?_; refine qp (i := 10) zh ?_; refine bM ?_; refine ST.rd rfl (vE underlying3 rfl rfl rfl rfl) ?_; refine jq9 ?_
     show Less _ _
     refine qP6 ?_; exact (Less.of rfl (by repeat (first | exact trivial | refine ⟨⟨_, rfl, Wk.refl _⟩, ?_⟩)) (by repeat (first | exact trivial | refine ⟨rfl, ?_⟩ | exact LH.fam | refine LH.skip zj ?_)) rfl)
    refine W1 ?_; refine qa3 ?_; refine x8 ?_; refine ⟨_, ?_, ⟨i + 1, R, by omega, by rw [hs, hR], rfl⟩, ?_⟩
    ·exact qd
    exact zM
  rw [take_of_length_le zg, ← hxa] at hR; have jd7 := jS8 R hRl hn0; have bC : V.own 22 1 n false = .own 22 FM.sz (FM.it R).length (FM.it R).isEmpty := by rw [qX1, hRl, qX2 R hRl hn0]; rfl
  have hL2 : L ++ [R] = bl (fun q => bl (fw sts 0 q) n) (q + 1) := by
   rw [hL, hR]; unfold bl; rw [List.range_succ, map_append]; rfl
  refine wn ?_; refine q9 rfl (zN (vs := [(0, _)]) (zs := [.nil]) 81 underlying84 u9 rfl rfl zj zj zj rfl rfl rfl rfl (by first | rfl | (simp only [S.clean, S.put, S.newObj, all_cons, zP, reduceLT]; simp [S.forget, V.has, V.hasL, zV, xg, V.cs, xm, xF, xG, xc, x4, zE, zA, zL, xL, xC, nb1, nb2, nb3, nb4, -map_set]; try omega)) rfl rfl) ?_
  refine qf rfl (xK underlying84 u9 rfl zj rfl rfl rfl rfl rfl rfl zT5 (by first | rfl | (simp only [S.clean, S.put, S.newObj, all_cons, zP, reduceLT]; simp [S.forget, V.has, V.hasL, zV, xg, V.cs, xm, xF, xG, xc, x4, zE, zA, zL, xL, xC, nb1, nb2, nb3, nb4, -map_set]; try omega)) rfl rfl rfl rfl rfl rfl rfl zj zg zg rfl) ?_; refine W23 ?_
  refine AW.less (s' := ⟨163, [(1, .ref 1 0), (3, .i n), (4, .own 901 1 (q + 1) false), (5, .i q)], [(1, ⟨24, [.i st, .d (zq sts)], false, 0⟩), (22, ⟨3, R.map V.n, false, 1⟩), (901, ⟨42, FM.cells 1000 L ++ [.own 22 1 n false], false, 1⟩)] ++ FM.objs 1000 L, []⟩) qd ?_
  refine jd (F := FM) [_, _, _] 901 22 R rfl rfl rfl (by rw [jd7]; rfl) (by rw [bC]; rfl) zj rfl (by simp [V.hasL, V.has]) rfl rfl (by intro y hy zT r hr; simp only [mem_cons, not_mem_nil, or_false] at hy; rcases hy with rfl | rfl | rfl <;> first | exact absurd rfl zT | rfl | exact xc _ _) rfl rfl ?_
  refine zC ?_; refine ⟨_, ?_, ⟨q + 1, L ++ [R], by omega, by simp [hLl], hL2, rfl⟩, ?_⟩
  ·exact qd
  exact zM
 obtain rfl : q = n := by omega
 have hL0 : L = mt (fw sts 0) q := hL; clear hL hz4; refine xS ?_; refine qb (fun s' => ∃ (k : Nat) (L : List (List Nat)), k ≤ q ∧ L = mt (fw sts k) q ∧ s' = ⟨163, [(3, .i q), (4, .own 901 1 q (decide (q = 0))), (10, .i k)], [(901, ⟨42, FM.cells 1000 L, decide (q = 0), 1⟩)] ++ FM.objs 1000 L, []⟩) (fun s' => q - s'.nat 10) ⟨_, ?_, 0, L, by omega, hL0, rfl⟩ ?_
 ·exact qd
 clear hL0 hLl; rintro s' ⟨k, L, hk, hL, rfl⟩; have hLl : L.length = q := by rw [hL, jl6]
 by_cases qu8 : k < q
 ·have hn0 : 0 < q := by omega
  have hnf : decide (q = 0) = false := by simp; omega
  rw [hnf]; have hLm := hL.trans (jl7 sts k q).symm; refine vF ?_; refine qb (fun s' => ∃ (a : Nat) (L : List (List Nat)), a ≤ q ∧ L = mt (mix sts k a 0) q ∧ s' = ⟨163, [(3, .i q), (4, .own 901 1 q false), (10, .i k), (11, .i a)], [(901, ⟨42, FM.cells 1000 L, false, 1⟩)] ++ FM.objs 1000 L, []⟩) (fun s' => q - s'.nat 11) ⟨_, ?_, 0, L, by omega, hLm, rfl⟩ ?_
  ·exact qd
  clear hLm hL hLl; rintro s' ⟨a, L, ha, hL, rfl⟩
  by_cases qD8 : a < q
  ·skip
   refine vF ?_; refine qb (fun s' => ∃ (b : Nat) (L : List (List Nat)), b ≤ q ∧ L = mt (mix sts k a b) q ∧ s' = ⟨163, [(3, .i q), (4, .own 901 1 q false), (10, .i k), (11, .i a), (12, .i b)], [(901, ⟨42, FM.cells 1000 L, false, 1⟩)] ++ FM.objs 1000 L, []⟩) (fun s' => q - s'.nat 12) ⟨_, ?_, 0, L, by omega, hL, rfl⟩ ?_
   ·exact qd
   clear hL; rintro s' ⟨b, L, hb, hL, rfl⟩
   by_cases q68 : b < q
   ·have hra : L[a]? = some (bl (mix sts k a b a) q) := by rw [hL]; exact qX3 qD8
    have hrk : L[k]? = some (bl (mix sts k a b k) q) := by rw [hL]; exact qX3 qu8
    obtain ⟨ra, qF5⟩ : ∃ r, bl (mix sts k a b a) q = r := ⟨_, rfl⟩; obtain ⟨rk, jf2⟩ : ∃ r, bl (mix sts k a b k) q = r := ⟨_, rfl⟩; have k76 : ra.length = q := by rw [← qF5, w4]
    have k77 : rk.length = q := by rw [← jf2, w4]
    have e1 : mix sts k a b a k = fw sts k a k := by unfold mix; split <;> first | exact k74 k a | rfl
    have e2 : mix sts k a b k b = fw sts k k b := by unfold mix; split <;> first | exact vi k b | rfl
    have e3 : mix sts k a b a b = fw sts k a b := by unfold mix; rw [if_neg zg]
    have g1 : ra[k]? = some (fw sts k a k) := by rw [← qF5, w8 qu8, e1]
    have g2 : rk[b]? = some (fw sts k k b) := by rw [← jf2, w8 q68, e2]
    have g3 : ra[b]? = some (fw sts k a b) := by rw [← qF5, w8 q68, e3]
    have wJ := jI2 (sts := sts) (k := k) qD8 q68; have q46 := jw9 (sts := sts) (k := k) (q0 := a) (p0 := b) (n := q); have jx0 : fw sts (k + 1) a b = min (fw sts k a b) (fw sts k a k + fw sts k k b) := rfl; rw [← hL, qF5, jx0] at wJ; rw [← hL, jx0] at q46; have l1 := (x6 k).le a k; have l2 := (x6 k).le k b; have l3 := (x6 k).le a b; rw [qF5] at hra; rw [jf2] at hrk; clear e1 e2 e3 qF5 jf2 hL jx0
    generalize fw sts k a k = u at *; generalize fw sts k k b = v at *; generalize fw sts k a b = z at *; have f1 := qX0 g1; have f2 := qX0 g2; have f3 := qX0 g3; have o1 := jl5 (1000 + a) ra k76 hn0; have o2 := jl5 (1000 + k) rk k77 hn0; have i1 : a < L.length := (List.getElem?_eq_some_iff.1 hra).1; have i2 : k < L.length := (List.getElem?_eq_some_iff.1 hrk).1
    by_cases hu : u = big
    ·skip
     refine W53 ?_; refine W8 ?_; refine AD1.rd rfl rfl rfl (fun _ _ h => h) (xH (m := 0) underlying42 rfl rfl rfl rfl rfl rfl (fun _ => rfl) rfl zm zm) ?_; refine zR ?_; refine AD1.rd rfl rfl rfl (fun _ _ h => h) (xx (F := FM) (lits := [_]) (i := k) (j := 0) underlying3 rfl rfl rfl rfl rfl zm rfl zm (wG) rfl) ?_
     iterate 36 refine Dv ?_
     refine qV ?_; refine jb9 ?_; refine ⟨_, ?_, ⟨b + 1, L, by omega, (q46 zg).symm, rfl⟩, ?_⟩
     ·exact qd
     exact zM
    by_cases hv : v = big
    ·skip
     refine W53 ?_; refine W8 ?_; refine AD1.rd rfl rfl rfl (fun _ _ h => h) (xH (m := 0) underlying42 rfl rfl rfl rfl rfl rfl (fun _ => rfl) rfl zm zm) ?_; refine zR ?_; refine AD1.rd rfl rfl rfl (fun _ _ h => h) (xx (F := FM) (lits := [_]) (i := k) (j := 0) underlying3 rfl rfl rfl rfl rfl zm rfl zm (wG) rfl) ?_; refine zC ?_
     refine qu rfl rfl rfl rfl (fun _ _ h => h) (xH (m := 0) underlying42 rfl rfl rfl rfl rfl rfl (fun _ => rfl) rfl zm zm) ?_; refine zR ?_; refine qu rfl rfl rfl rfl (fun _ _ h => h) (xx (F := FM) (lits := [_]) (i := b) (j := 0) underlying3 rfl rfl rfl rfl rfl zm rfl zm (wG) rfl) ?_
     iterate 27 refine Dv ?_
     refine qV ?_; refine jb9 ?_; refine ⟨_, ?_, ⟨b + 1, L, by omega, (q46 zg).symm, rfl⟩, ?_⟩
     ·exact qd
     exact zM
    by_cases hc : u + v < z
    ·rw [Nat.min_eq_right zg] at wJ
     clear q46; refine W53 ?_; refine W8 ?_; refine AD1.rd rfl rfl rfl (fun _ _ h => h) (xH (m := 0) underlying42 rfl rfl rfl rfl rfl rfl (fun _ => rfl) rfl zm zm) ?_; refine zR ?_; refine AD1.rd rfl rfl rfl (fun _ _ h => h) (xx (F := FM) (lits := [_]) (i := k) (j := 0) underlying3 rfl rfl rfl rfl rfl zm rfl zm (wG) rfl) ?_; refine zC ?_
     refine qu rfl rfl rfl rfl (fun _ _ h => h) (xH (m := 0) underlying42 rfl rfl rfl rfl rfl rfl (fun _ => rfl) rfl zm zm) ?_; refine zR ?_; refine qu rfl rfl rfl rfl (fun _ _ h => h) (xx (F := FM) (lits := [_]) (i := b) (j := 0) underlying3 rfl rfl rfl rfl rfl zm rfl zm (wG) rfl) ?_; refine zY ?_
     refine qu rfl rfl rfl rfl (fun _ _ h => h) (xH (m := 0) underlying42 rfl rfl rfl rfl rfl rfl (fun _ => rfl) rfl zm zm) ?_; refine zR ?_; refine qu rfl rfl rfl rfl (fun _ _ h => h) (xx (F := FM) (lits := [_]) (i := k) (j := 0) underlying3 rfl rfl rfl rfl rfl zm rfl zm (wG) rfl) ?_; refine xd ?_
     refine qu rfl rfl rfl rfl (fun _ _ h => h) (xH (m := 0) underlying42 rfl rfl rfl rfl rfl rfl (fun _ => rfl) rfl zm zm) ?_; refine zR ?_; refine qu rfl rfl rfl rfl (fun _ _ h => h) (xx (F := FM) (lits := [_]) (i := b) (j := 0) underlying3 rfl rfl rfl rfl rfl zm rfl zm (wG) rfl) ?_; refine zW ?_
     refine qu rfl rfl rfl rfl (fun _ _ h => h) (xH (m := 0) underlying42 rfl rfl rfl rfl rfl rfl (fun _ => rfl) rfl zm zm) ?_; refine zR ?_; refine qu rfl rfl rfl rfl (fun _ _ h => h) (xx (F := FM) (lits := [_]) (i := b) (j := 0) underlying3 rfl rfl rfl rfl rfl zm rfl zm (wG) rfl) ?_; refine zR ?_; refine qV ?_
     try simp only [wY, S.put, nil_append, cons_append]
     refine Dv ?_; refine qi [(0, true), (1, true), (2, true), (3, true), (4, true), (5, true), (6, true), (7, true), (8, true), (9, true), (10, true), (11, true), (12, true), (13, true), (14, true), (15, true), (16, true), (17, true), (18, true), (19, true), (20, true), (21, false)] (fun i => !([21] : List Nat).contains i) 22 zh zh rfl zh ?_; refine xd ?_
     refine AD1.rd rfl rfl rfl (fun _ _ h => h) (xH (m := 0) underlying42 rfl rfl rfl rfl rfl rfl (fun _ => rfl) rfl zm zm) ?_; refine zW ?_; refine AD1.rd rfl rfl rfl (fun _ _ h => h) (xH (m := 0) underlying42 rfl rfl rfl rfl rfl rfl (fun _ => rfl) rfl zm zm) ?_; refine zR ?_
     refine AD1.rd rfl rfl rfl (fun _ _ h => h) (xx (F := FM) (lits := [_]) (i := k) (j := 0) underlying3 rfl rfl rfl rfl rfl zm rfl zm (wG) rfl) ?_; refine xd ?_; refine AD1.rd rfl rfl rfl (fun _ _ h => h) (xH (m := 0) underlying42 rfl rfl rfl rfl rfl rfl (fun _ => rfl) rfl zm zm) ?_; refine zR ?_
     refine AD1.rd rfl rfl rfl (fun _ _ h => h) (xx (F := FM) (lits := [_]) (i := b) (j := 0) underlying3 rfl rfl rfl rfl rfl zm rfl zm (wG) rfl) ?_; refine qw rfl rfl rfl (fun _ _ h => h) (jF3 (((u + v : Nat) : Int)) rfl rfl rfl zg zg) ?_; refine Dv ?_; refine W85 ?_
     refine qo rfl rfl rfl (bh (F := FM) (lits := [_]) (x0 := ra) (rb := 901) (i := b) (j := 0) (ra.set b (u + v)) zz rfl rfl rfl rfl rfl rfl rfl rfl zm rfl zm zj (wG) rfl rfl (by rw [jl4]; rfl)) ?_; refine W37 ?_; refine zC ?_; refine ⟨_, ?_, ⟨b + 1, _, by omega, wJ, rfl⟩, ?_⟩
     ·exact qd
     exact zM
    skip; refine W53 ?_; refine W8 ?_; refine AD1.rd rfl rfl rfl (fun _ _ h => h) (xH (m := 0) underlying42 rfl rfl rfl rfl rfl rfl (fun _ => rfl) rfl zm zm) ?_; refine zR ?_; refine AD1.rd rfl rfl rfl (fun _ _ h => h) (xx (F := FM) (lits := [_]) (i := k) (j := 0) underlying3 rfl rfl rfl rfl rfl zm rfl zm (wG) rfl) ?_; refine zC ?_
    refine qu rfl rfl rfl rfl (fun _ _ h => h) (xH (m := 0) underlying42 rfl rfl rfl rfl rfl rfl (fun _ => rfl) rfl zm zm) ?_; refine zR ?_; refine qu rfl rfl rfl rfl (fun _ _ h => h) (xx (F := FM) (lits := [_]) (i := b) (j := 0) underlying3 rfl rfl rfl rfl rfl zm rfl zm (wG) rfl) ?_; refine zY ?_
    refine qu rfl rfl rfl rfl (fun _ _ h => h) (xH (m := 0) underlying42 rfl rfl rfl rfl rfl rfl (fun _ => rfl) rfl zm zm) ?_; refine zR ?_; refine qu rfl rfl rfl rfl (fun _ _ h => h) (xx (F := FM) (lits := [_]) (i := k) (j := 0) underlying3 rfl rfl rfl rfl rfl zm rfl zm (wG) rfl) ?_; refine xd ?_
    refine qu rfl rfl rfl rfl (fun _ _ h => h) (xH (m := 0) underlying42 rfl rfl rfl rfl rfl rfl (fun _ => rfl) rfl zm zm) ?_; refine zR ?_; refine qu rfl rfl rfl rfl (fun _ _ h => h) (xx (F := FM) (lits := [_]) (i := b) (j := 0) underlying3 rfl rfl rfl rfl rfl zm rfl zm (wG) rfl) ?_; refine zW ?_
    refine qu rfl rfl rfl rfl (fun _ _ h => h) (xH (m := 0) underlying42 rfl rfl rfl rfl rfl rfl (fun _ => rfl) rfl zm zm) ?_; refine zR ?_; refine qu rfl rfl rfl rfl (fun _ _ h => h) (xx (F := FM) (lits := [_]) (i := b) (j := 0) underlying3 rfl rfl rfl rfl rfl zm rfl zm (wG) rfl) ?_; refine zR ?_; refine qV ?_; refine jb9 ?_; refine ⟨_, ?_, ⟨b + 1, L, by omega, (q46 zg).symm, rfl⟩, ?_⟩
    ·exact qd
    exact zM
   obtain rfl : b = q := by omega
   rw [jI0] at hL; refine xS ?_; refine ⟨_, ?_, ⟨a + 1, L, by omega, hL, rfl⟩, ?_⟩
   ·exact qd
   exact zM
  obtain rfl : a = q := by omega
  rw [jI1] at hL; refine xS ?_; refine ⟨_, ?_, ⟨k + 1, L, by omega, hL, rfl⟩, ?_⟩
  ·exact qd
  exact zM
 obtain rfl : k = q := by omega
 have hLr : ∀ r ∈ L, r.length = k := fun r hr => by
  rw [hL] at hr; obtain ⟨i, hi⟩ := List.getElem?_of_mem hr; obtain ⟨_, rfl⟩ := yx hi; exact w4 _ _
 have hPa : ∀ x ∈ L, (FM.it x).length * FM.bt ≤ 140737488355328 := fun x hx => by
  rw [qX1, hLr x hx]
  show k * 8 ≤ _
  omega
 rw [← hL]; refine qP9 ?_; refine jf (F := FM) (m := 0) (base := 1000) (L := L) [_] 901 rfl rfl (by rw [hLl]) rfl (fun _ => rfl) wG hPa rfl (by intro y hy zT; simp only [mem_cons, not_mem_nil, or_false] at hy; rcases hy with rfl; exact absurd rfl zT) rfl rfl ?_; refine qk 4 24 (L.map qi3) rfl rfl rfl (by rw [length_map, hLl]) zg (vx (enc := qi3) (sz := 1) (l := L) (fun _ => rfl) rfl) ?_
 refine zC ?_; exact ⟨[_], ⟨rfl, trivial⟩, rfl, zU2⟩
end Go.Proofs.YthiknkcigcglkaaGreatDoor
