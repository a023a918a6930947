/- Part 21 of what the law SameSames rests on. -/
import Derived.Test.YthiknkcigcglkaaGreatDoorPkSS19
namespace Go.Proofs.YthiknkcigcglkaaGreatDoor
open Go.RowKit
open Go.Proofs.Tryz
open List (ext_getElem? getD_eq_getElem?_getD length_map map_set mem_of_getElem? take_of_length_le)
set_option linter.unusedSimpArgs false
set_option linter.unusedVariables false
set_option maxRecDepth 100000
set_option maxHeartbeats 8000000
variable {p x : Nat}
theorem qW9 (y : Ar) (b : Bool) (hb : emp y = b) : Fn prog 93 [.agg ((arD y).map V.d)] (fun v => v = .b b) := by
 subst hb; obtain ⟨yi, yo, yw, yt⟩ := y; refine qc 11 fun w0 out => ?_
 by_cases h1 : yi = 0
 ·by_cases h2 : yo = 0
  ·skip
   refine q33 ?_; exact ⟨[_], ⟨rfl, trivial⟩, by simp [zZ, emp, h1, h2], zU2⟩
  skip; refine q33 ?_; exact ⟨[_], ⟨rfl, trivial⟩, by simp [zZ, emp, h1, h2], zU2⟩
 skip; refine q33 ?_; exact ⟨[_], ⟨rfl, trivial⟩, by simp [zZ, emp, h1], zU2⟩
def ut (x : Nat) : Int := if x = big then -1 else (x : Int)
theorem qu5 : ut big = -1 := by unfold ut; rw [if_pos rfl]
theorem q03 (h : x < big) : ut x = (x : Int) := by unfold ut; rw [if_neg zg]
theorem qu6 {L : List Nat} (h : L[p]? = some x) : (L.map ut)[p]? = some (ut x) := by rw [List.getElem?_map, h]; rfl
theorem jw8 (L : List Nat) (p x : Nat) : (L.map ut).set p (ut x) = (L.set p x).map ut := by rw [List.map_set]
theorem jH9 (m : zr) (q : Nat) (h0 : zn m = 0) (hq : q < m.states.length) : Fn prog 92 [mV m, .i q] (fun v => v = .d (ua ((bl (hop m.states q) m.states.length).map ut)) ∧ ∀ p, p < m.states.length → hop m.states q p < big → hop m.states q p ≤ 60000000000) := by
 have hz := xj h0; clear h0; have gI := yz; obtain ⟨st, sts⟩ := m; simp only at hz hq ⊢; obtain ⟨n, hn⟩ : ∃ n, sts.length = n := ⟨_, rfl⟩; obtain ⟨hz1, hz2, hz3, hz4⟩ := hz; rw [hn] at hz1 hz3 hz4 hq ⊢
 have hw0 : ∀ q, ∀ a ∈ stA sts q, 0 ≤ a.w ∧ a.w ≤ 1000000000 ∧ 0 ≤ a.t ∧ a.t < n := by
  intro q a ha
  by_cases hql : q < n
  ·obtain ⟨x, hx⟩ := zl hn hql
   rw [wo hx] at ha; have h3 := (hz4 x (mem_of_getElem? hx)).2 a ha; simp only [xl, decide_eq_true_eq] at h3; omega
  rw [stA, getD_eq_getElem?_getD, List.getElem?_eq_none zg] at ha; simp at ha
 obtain ⟨D, hD⟩ : ∃ D, bl (hop sts q) n = D := ⟨_, rfl⟩
 have hDg : ∀ p, p < n → D[p]? = some (hop sts q p) := fun p hp => by rw [← hD]; exact w8 hp
 rw [hD]; refine qc 113 fun w0 out => ?_; refine W41 ?_; refine zY ?_; refine q9 rfl (vg 17 V.i (0) underlying42 zz rfl rfl rfl rfl rfl zg zj rfl rfl) ?_; refine xX ?_
 refine qb (fun s' => ∃ (k : Nat) (C : List Int), k ≤ n ∧ C.length = n ∧ (∀ j, j < k → C[j]? = some (-1)) ∧ s' = ⟨113, [(1, .i q), (2, .ref 2 0), (5, .own 17 1 n false), (19, .i n), (20, .i k)], [(2, ⟨24, [.i st, .d (zq sts)], false, 0⟩), (17, ⟨3, C.map V.i, false, 1⟩)], []⟩) (fun s' => n - s'.nat 20) ⟨_, ?_, 0, List.replicate n 0, by omega, by simp, (fun j h => absurd h zg), rfl⟩ ?_
 ·exact q8
 rintro s' ⟨k, C, hk, hCl, hC, rfl⟩
 by_cases zk : k < n
 ·have hkC : k < C.length := by omega
  refine W51 ?_; refine zC ?_; refine ⟨_, ?_, ⟨k + 1, C.set k (-1), by omega, by simpa using hCl, fun j hj => ?_, rfl⟩, ?_⟩
  ·exact q8
  ·rw [List.getElem?_set]
   by_cases e : k = j
   ·subst e; simp [hkC]
   rw [if_neg e]; exact hC j zg
  exact zM
 have hCq : C.set q 0 = (bl (fwI q) n).map ut := by
  refine ext_getElem? fun j => ?_
  by_cases hj : j < n
  ·rw [List.getElem?_map, w8 hj, List.getElem?_set]
   by_cases e : q = j
   ·subst e; rw [if_pos rfl, if_pos zg]; simp [fwI, ut, big]
   rw [if_neg e, hC j zg]; simp [fwI, Ne.symm e, ut]
  rw [List.getElem?_eq_none (by simp; omega), List.getElem?_eq_none (by simp [bl]; omega)]
 have hqC : q < C.length := by omega
 refine ve ?_; refine W98 ?_; refine q9 rfl (vg 33 V.b (false) underlying51 qa1 rfl rfl rfl rfl rfl zg zj zT0 rfl) ?_; refine xd ?_; rw [hCq]; clear zk hk hC hCl hCq hqC
 refine qF (fun μ s' => ∃ (L : List Nat) (C : List Int) (Dn : List Bool) (k : Nat), μ + k = n ∧ Nr sts q n L Dn k ∧ L.map ut = C ∧ s' = ⟨113, [(2, .ref 2 0), (5, .own 17 1 n false), (7, .own 33 1 n false)], [(2, ⟨24, [.i st, .d (zq sts)], false, 0⟩), (17, ⟨3, C.map V.i, false, 1⟩), (33, ⟨4, Dn.map V.b, false, 1⟩)], []⟩) ⟨n, _, ?_, bl (fwI q) n, _, List.replicate n false, 0, by omega, jw1 sts q n, rfl, rfl⟩ ?_
 ·exact q8
 rintro μ s' ⟨L, C, Dn, k, hμ, hN, hC, rfl⟩; have hCl : C.length = n := by rw [← hC, length_map, hN.snd.len]
 have hDl := hN.dl; have xU : k ≤ n := by omega
 have hCg : ∀ p x : Nat, L[p]? = some x → C[p]? = some (ut x) := fun p x h => hC ▸ qu6 h
 refine xu ?_
 refine qb (fun s' => ∃ (i : Nat) (z : Int), i ≤ n ∧ (z = -1 ∧ (∀ p x : Nat, p < i → Dn[p]? = some false → L[p]? = some x → x = big) ∨ ∃ r y : Nat, z = (r : Int) ∧ r < n ∧ Dn[r]? = some false ∧ L[r]? = some y ∧ y < big ∧ ∀ p x : Nat, p < i → Dn[p]? = some false → L[p]? = some x → y ≤ x) ∧ s' = ⟨113, [(2, .ref 2 0), (5, .own 17 1 n false), (7, .own 33 1 n false), (8, .i z), (34, .own 17 1 n false), (35, .i n), (36, .i i)], [(2, ⟨24, [.i st, .d (zq sts)], false, 0⟩), (17, ⟨3, C.map V.i, false, 1⟩), (33, ⟨4, Dn.map V.b, false, 1⟩)], []⟩) (fun s' => n - s'.nat 36) ⟨_, ?_, 0, -1, by omega, .inl ⟨rfl, fun p x h => absurd h zg⟩, rfl⟩ ?_
 ·exact q8
 rintro s' ⟨i, z, hi, hzz, rfl⟩
 by_cases zk : i < n
 ·obtain ⟨c, hc⟩ := zl hN.snd.len zk
  obtain ⟨b, hb⟩ := zl hDl zk; have hcb := hN.snd.le i c hc; have hcC := hCg i c hc
  by_cases jY8 : c = big
  ·subst jY8
   rw [qu5] at hcC
   iterate 29 refine Dv ?_
   refine W15 ?_; refine W15 ?_; refine W15 ?_; refine xX ?_; refine ⟨_, ?_, ⟨i + 1, z, by omega, ?_, rfl⟩, ?_⟩
   ·exact q8
   ·rcases hzz with ⟨h1, h2⟩ | ⟨r, y, h1, h2, h3, h4, h5, h6⟩
    ·refine .inl ⟨h1, fun p x hp h3 h4 => ?_⟩
     by_cases e : p = i
     ·subst e; rw [hc] at h4; exact (Option.some.inj h4).symm
     exact h2 p x zg h3 h4
    refine .inr ⟨r, y, h1, h2, h3, h4, h5, fun p x hp h7 h8 => ?_⟩
    by_cases e : p = i
    ·subst e; rw [hc] at h8; have := Option.some.inj h8; omega
    exact h6 p x zg h7 h8
   exact zM
  have hc1 : c < big := by omega
  rw [q03 hc1] at hcC
  have wb : b = true → ∀ (z : Int), (z = -1 ∧ (∀ p x : Nat, p < i → Dn[p]? = some false → L[p]? = some x → x = big) ∨ ∃ r y : Nat, z = (r : Int) ∧ r < n ∧ Dn[r]? = some false ∧ L[r]? = some y ∧ y < big ∧ ∀ p x : Nat, p < i → Dn[p]? = some false → L[p]? = some x → y ≤ x) → (z = -1 ∧ (∀ p x : Nat, p < i + 1 → Dn[p]? = some false → L[p]? = some x → x = big) ∨ ∃ r y : Nat, z = (r : Int) ∧ r < n ∧ Dn[r]? = some false ∧ L[r]? = some y ∧ y < big ∧ ∀ p x : Nat, p < i + 1 → Dn[p]? = some false → L[p]? = some x → y ≤ x) := by
   intro hbt z hzz; subst hbt
   rcases hzz with ⟨h1, h2⟩ | ⟨r, y, h1, h2, h3, h4, h5, h6⟩
   ·refine .inl ⟨h1, fun p x hp h3 h4 => ?_⟩
    by_cases e : p = i
    ·subst e; rw [hb] at h3; cases h3
    exact h2 p x zg h3 h4
   refine .inr ⟨r, y, h1, h2, h3, h4, h5, fun p x hp h7 h8 => ?_⟩
   by_cases e : p = i
   ·subst e; rw [hb] at h7; cases h7
   exact h6 p x zg h7 h8
  cases b with
  | true =>
   have hs := wb rfl z hzz; clear hzz wb
   iterate 29 refine Dv ?_
   refine W15 ?_; refine W15 ?_; refine W15 ?_; refine xX ?_; refine ⟨_, ?_, ⟨i + 1, z, by omega, hs, rfl⟩, ?_⟩
   ·exact q8
   exact zM
  | false =>
   clear wb
   rcases hzz with ⟨rfl, h2⟩ | ⟨r, y, rfl, h2, h3, h4, h5, h6⟩
   ·skip
    iterate 47 refine Dv ?_
    refine ⟨_, ?_, ⟨i + 1, i, by omega, .inr ⟨i, c, rfl, zk, hb, hc, hc1, fun p x hp h3 h4 => ?_⟩, rfl⟩, ?_⟩
    ·exact q8
    ·by_cases e : p = i
     ·subst e; rw [hc] at h4; have := Option.some.inj h4; omega
     have := h2 p x zg h3 h4; omega
    exact zM
   have hyC := hCg r y h4; rw [q03 h5] at hyC
   by_cases hcy : c < y
   ·skip
    iterate 47 refine Dv ?_
    refine ⟨_, ?_, ⟨i + 1, i, by omega, .inr ⟨i, c, rfl, zk, hb, hc, hc1, fun p x hp h7 h8 => ?_⟩, rfl⟩, ?_⟩
    ·exact q8
    ·by_cases e : p = i
     ·subst e; rw [hc] at h8; have := Option.some.inj h8; omega
     have := h6 p x zg h7 h8; omega
    exact zM
   skip
   iterate 44 refine Dv ?_
   refine ⟨_, ?_, ⟨i + 1, r, by omega, .inr ⟨r, y, rfl, h2, h3, h4, h5, fun p x hp h7 h8 => ?_⟩, rfl⟩, ?_⟩
   ·exact q8
   ·by_cases e : p = i
    ·subst e; rw [hc] at h8; have := Option.some.inj h8; omega
    exact h6 p x zg h7 h8
   exact zM
 obtain rfl : i = n := by omega
 rcases hzz with ⟨rfl, h2⟩ | ⟨r, y, rfl, h2, h3, h4, h5, h6⟩
 ·have hLD : L = D := by
   rw [← hD]; exact hN.done hn fun r x h5 h6 => h2 r x (by have := (List.getElem?_eq_some_iff.1 h5).1; omega) h5 h6
  have hbd : ∀ p, p < i → hop sts q p < big → hop sts q p ≤ 60000000000 := fun p hp hb => by
   have h7 := hN.bnd p _ (hLD ▸ hDg p hp) hb; have : k * 1000000000 ≤ 60 * 1000000000 := Nat.mul_le_mul_right _ zg; omega
  subst hLD; rw [hC]; refine wn ?_; apply qg; refine qk 5 8 (C.map fun x => [D.p (.int .i64 x)]) rfl rfl rfl (by rw [length_map, hCl]) zg (yk (f := fun x : Int => D.p (.int .i64 x)) rfl) ?_; refine zC ?_; exact ⟨[_], ⟨rfl, trivial⟩, ⟨rfl, hbd⟩, zU2⟩
 obtain ⟨x, hx⟩ := zl hn h2; have hxa : stA sts r = x.arcs := wo hx; have hxl := qp9 (mem_of_getElem? hx); obtain ⟨la, xr⟩ : ∃ la, x.arcs.length = la := ⟨_, rfl⟩; have hNI := hN.take h3 h4 h5 fun p z h7 h8 => h6 p z (by have := (List.getElem?_eq_some_iff.1 h7).1; omega) h7 h8; have hrD : r < Dn.length := by omega
 have hk1 : k + 1 ≤ i := by
  have h7 := hNI.cnt; have h8 : (Dn.set r true).count true ≤ (Dn.set r true).length := List.count_le_length; rw [List.length_set] at h8; omega
 have hyk := hNI.xk; obtain ⟨Dm, hDm⟩ : ∃ Dm, Dn.set r true = Dm := ⟨_, rfl⟩; have hx4 : la ≤ 400 := by omega
 have hxm : ∀ a ∈ x.arcs, 0 ≤ a.w ∧ a.w ≤ 1000000000 ∧ 0 ≤ a.t ∧ a.t < i := fun a ha => hw0 r a (by rw [hxa]; exact ha)
 have hsr : (Dn.map V.b).set r (.b true) = Dm.map V.b := by rw [← hDm, map_set]
 rw [hDm] at hNI; clear h6 hw0 hz4 hz2 h3 hN hz3; refine jq2 ?_; refine Dv ?_; apply qg; rw [hDm]; refine xu ?_
 refine qb (fun s' => ∃ (j : Nat) (L : List Nat) (C : List Int), j ≤ la ∧ NrI sts q i r y L Dm k (x.arcs.take j) ∧ L.map ut = C ∧ s' = ⟨113, [(2, .ref 2 0), (5, .own 17 1 i false), (7, .own 33 1 i false), (8, .i r), (75, .d (zU x.arcs)), (76, .i la), (77, .i j)], [(2, ⟨24, [.i st, .d (zq sts)], false, 0⟩), (17, ⟨3, C.map V.i, false, 1⟩), (33, ⟨4, Dm.map V.b, false, 1⟩)], []⟩) (fun s' => la - s'.nat 77) ⟨_, ?_, 0, L, C, by omega, hNI, hC, rfl⟩ ?_
 ·exact q8
 clear hNI hC hCg hCl h4 L C; rintro s' ⟨j, L, C, hj, hNI, hC, rfl⟩; have hLl := hNI.snd.len; have hCl : C.length = i := by rw [← hC, length_map, hLl]
 have hCg : ∀ p x : Nat, L[p]? = some x → C[p]? = some (ut x) := fun p x h => hC ▸ qu6 h
 by_cases zk : j < la
 ·obtain ⟨a, ha⟩ := zl xr zk
  have ham := mem_of_getElem? ha; obtain ⟨a1, a2, a3, a4⟩ := hxm a ham; obtain ⟨ai, ao, aw, at'⟩ := a; simp only at a1 a2 a3 a4; obtain ⟨v, rfl⟩ := Int.eq_ofNat_of_zero_le a1; obtain ⟨p, rfl⟩ := Int.eq_ofNat_of_zero_le a3; have wa : p < i := by omega
  obtain ⟨z, hzp⟩ := zl hLl wa; have hzb := hNI.snd.le p z hzp; have hrC := hCg r y hNI.sx; rw [q03 h5] at hrC; have hpC := hCg p z hzp; obtain ⟨e, he⟩ : ∃ e, emp ⟨ai, ao, (v : Int), (p : Int)⟩ = e := ⟨_, rfl⟩; have hem := qW9 _ e he
  cases e with
  | false =>
   have hnx := hNI.skip ha (fun h => by rw [he] at h; cases h)
   refine W87 ?_; refine W31 ?_; refine W21 ?_; refine qC2 ?_; refine qa hem ?_; refine qC1 ?_; refine W15 ?_; refine W15 ?_; refine W15 ?_; refine j0 rfl ⟨_, rfl, rfl⟩ rfl ?_; refine xX ?_; refine ⟨_, ?_, ⟨j + 1, L, C, by omega, hnx, hC, rfl⟩, ?_⟩
   ·exact q8
   exact zM
  | true =>
   by_cases hc : y + v < z
   ·have qu7 : y + v < big := by omega
    have hnx := hNI.less hxa ha he rfl wa rfl zg hzp hc
    have wJ : (L.set p (y + v)).map ut = C.set p ((y : Int) + (v : Int)) := by
     rw [← jw8, q03 qu7, hC, Int.natCast_add]
    by_cases hzz : z = big
    ·rw [hzz, qu5] at hpC
     refine W87 ?_; refine W31 ?_; refine W21 ?_; refine qC2 ?_; refine qa hem ?_; refine zQ ?_
     iterate 25 refine Dv ?_
     refine W98 ?_; refine ⟨_, ?_, ⟨j + 1, L.set p (y + v), _, by omega, hnx, wJ, rfl⟩, ?_⟩
     ·exact q8
     exact zM
    rw [q03 zg] at hpC; refine W87 ?_; refine W31 ?_; refine W21 ?_; refine qC2 ?_; refine qa hem ?_; refine zQ ?_
    iterate 25 refine Dv ?_
    refine W98 ?_; refine ⟨_, ?_, ⟨j + 1, L.set p (y + v), _, by omega, hnx, wJ, rfl⟩, ?_⟩
    ·exact q8
    exact zM
   have hnx := hNI.skip ha (fun _ p' y' hp' hy' => by
    simp only [Int.natCast_inj] at hp'; subst hp'; rw [hzp] at hy'; have := Option.some.inj hy'; simp only [Int.toNat_natCast]
    omega)
   rw [q03 zg] at hpC; refine W87 ?_; refine W31 ?_; refine W21 ?_; refine qC2 ?_; refine qa hem ?_; refine zQ ?_; refine gC ?_; refine ⟨_, ?_, ⟨j + 1, L, C, by omega, hnx, hC, rfl⟩, ?_⟩
   ·exact q8
   exact zM
 rw [take_of_length_le zg] at hNI; have hnx := hNI.done hxa; refine zY ?_; refine ⟨μ - 1, _, ?_, ⟨L, C, Dm, k + 1, by omega, hnx, hC, rfl⟩, by omega⟩; exact q8
end Go.Proofs.YthiknkcigcglkaaGreatDoor
