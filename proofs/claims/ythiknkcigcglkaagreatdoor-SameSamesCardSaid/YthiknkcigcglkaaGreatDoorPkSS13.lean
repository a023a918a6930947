/- Part 13 of what the law SameSames rests on. -/
import Derived.Test.YthiknkcigcglkaaGreatDoorPkSS10
import Derived.Test.YthiknkcigcglkaaGreatDoorPkSS11
import Derived.Test.YthiknkcigcglkaaGreatDoorPkSS12
namespace Go.Proofs.YthiknkcigcglkaaGreatDoor
open Go.RowKit
open Go.Proofs.Tryz
open Bool (false_eq_true)
open List (all_cons append_assoc append_nil cons_append flatMap_append flatMap_cons flatMap_nil getD_eq_getElem?_getD length_append length_cons length_map length_nil length_take map_append map_cons map_nil map_set map_toArray mem_append mem_cons mem_of_getElem? nil_append not_mem_nil take_of_length_le)
open Nat (le_refl le_trans reduceLT zero_add)
set_option linter.unusedSimpArgs false
set_option linter.unusedVariables false
set_option maxRecDepth 100000
set_option maxHeartbeats 8000000
variable {bt sz : Nat} {z : Value}
def FB : Fam (List Nat) := ⟨3, 1, 8, fun _ => [], fun l => l.map fun x : Nat => [.p (.int .i64 (x : Int))]⟩
def qN5 (l : List Nat) : List D := [.sl 1 8 (l.map fun x : Nat => [.p (.int .i64 (x : Int))])]
theorem jt7 (m : zr) : Fn prog 72 [mV m] (fun v => (zn m ≠ 0 ∧ v = .tup [.nil, .i (zn m)]) ∨ (zn m = 0 ∧ v = .tup [.d (y6 (yU m)), .i (zn m)])) := by
 refine qD m 0 rfl fun hb wm => ?_
 by_cases h0 : zn m = 0
 ·have hA : yU m = gj (yc m) (uR m) m.states.length := by unfold yU; rw [if_pos h0]
  have w3 := jP2 m; obtain ⟨xZ, vw, xR, hz⟩ := xj h0; obtain ⟨st, sts⟩ := m; simp only at xZ vw xR hz hb wm hA w3; obtain ⟨n, hn⟩ : ∃ n, sts.length = n := ⟨_, rfl⟩; rw [hn] at xZ xR hz hb hA w3
  have ui : ∀ x ∈ sts, x.arcs.length ≤ 400 := fun x hx => le_trans (yq sts x hx) vw
  refine qc 62 fun w0 out => ?_; refine qf2 ?_; refine qa (Fn.eqi (we ⟨st, sts⟩) h0) ?_; refine qe9 ?_; refine q9 rfl (qr7 19 underlying84 u9 rfl rfl rfl rfl zg zj rfl rfl) ?_
  refine q9 rfl (zp (l := [.nil]) 5 jb4 rfl (by first | rfl | (simp only [S.clean, S.put, S.newObj, all_cons, zP, reduceLT]; simp [S.forget, V.has, V.hasL, zV, xg, V.cs, xm, xF, xG, xc, x4, zE, zA, zL, xL, xC, nb1, nb2, nb3, nb4, -map_set]; try omega)) rfl rfl) ?_; refine qf rfl (vA jb4 rfl rfl rfl rfl rfl rfl rfl zT7 rfl) ?_; refine zW ?_; refine q63 ?_
  refine qB 6 100 1 3 rfl (by simp [S.clean, V.has, V.hasL]) ?_; refine jc FB 1000 19 (List.replicate n []) rfl rfl (by rw [qb0]; simp [FB]) (by intro x hx; rw [List.eq_of_mem_replicate hx]; rfl) rfl ?_; refine x8 ?_
  refine qb (fun s' => ∃ (k : Nat) (F : List Nat) (B : List (List Nat)), k ≤ n ∧ (∀ x, x ∈ F ↔ x < k ∧ yc ⟨st, sts⟩ x) ∧ F.length ≤ k ∧ B.length = n ∧ (∀ (p : Nat) (l : List Nat), B[p]? = some l → l.length ≤ 1000 * k ∧ ∀ q, q ∈ l ↔ q < k ∧ uR ⟨st, sts⟩ p q) ∧
   s' = ⟨62, [(1, .ref 1 0), (5, .ref 5 0), (6, .own 100 1 F.length (decide (F.length = 0))), (21, .d (zq sts)), (22, .i n), (23, .i k)], [(1, ⟨24, [.i st, .d (zq sts)], false, 0⟩), (5, ⟨84, [.own 19 1 n false], false, 0⟩), (19, ⟨42, FB.cells 1000 B, false, 1⟩), (100, ⟨3, F.map V.n, decide (F.length = 0), 1⟩)] ++ FB.objs 1000 B, []⟩) (fun s' => n - s'.nat 23) ⟨_, ?_, 0, [], List.replicate n [], by omega, by simp, by simp, by simp, (fun p l h => by
    rw [List.getElem?_replicate] at h
    split at h
    ·simp at h; subst h; simp
    cases h), rfl⟩ ?_
  ·exact qd
  rintro s' ⟨k, F, B, hk, hF, hFn, hBn, hB, rfl⟩
  by_cases hlk : k < n
  ·obtain ⟨x, hx⟩ := zl hn hlk
   obtain ⟨la, xr⟩ : ∃ n, x.arcs.length = n := ⟨_, rfl⟩; have yO := ui x (mem_of_getElem? hx); rw [xr] at yO
   have hbI : yc ⟨st, sts⟩ k ↔ x.fin ≠ 1000000001 := ⟨fun ⟨s, h1, h2⟩ => by simp only at h1; rw [hx] at h1; simp only [Option.some.injEq] at h1; subst h1; exact h2, fun h => ⟨x, hx, h⟩⟩
   refine W36 ?_; refine xd ?_
   refine qn (fun s' => ∃ F : List Nat, (∀ x, x ∈ F ↔ x < k + 1 ∧ yc ⟨st, sts⟩ x) ∧ F.length ≤ k + 1 ∧ s' = ⟨62, [(1, .ref 1 0), (5, .ref 5 0), (6, .own 100 1 F.length (decide (F.length = 0))), (7, .i k), (8, .ref 8 0), (21, .d (zq sts)), (22, .i n), (23, .i k)], [(1, ⟨24, [.i st, .d (zq sts)], false, 0⟩), (5, ⟨84, [.own 19 1 n false], false, 0⟩), (8, ⟨35, [.i x.fin, .d (zU x.arcs)], false, 0⟩), (19, ⟨42, FB.cells 1000 B, false, 1⟩), (100, ⟨3, F.map V.n, decide (F.length = 0), 1⟩)] ++ FB.objs 1000 B, []⟩) ?_ ?_
   ·skip
    by_cases ur : x.fin = 1000000001
    ·apply qg
     refine x8 ?_; refine ⟨_, ?_, F, fun y => ?_, by omega, rfl⟩
     ·exact qd
     grind
    skip; refine xX ?_; refine q9 rfl (zN (vs := [(0, _)]) (zs := [.i 0]) 33 underlying42 zz rfl rfl zj zj zj rfl rfl rfl rfl (by first | rfl | (simp only [S.clean, S.put, S.newObj, all_cons, zP, reduceLT]; simp [S.forget, V.has, V.hasL, zV, xg, V.cs, xm, xF, xG, xc, x4, zE, zA, zL, xL, xC, nb1, nb2, nb3, nb4, -map_set]; try omega)) rfl rfl) ?_
    refine qf rfl (xK underlying42 zz rfl zj rfl rfl rfl rfl rfl rfl zT5 (by first | rfl | (simp only [S.clean, S.put, S.newObj, all_cons, zP, reduceLT]; simp [S.forget, V.has, V.hasL, zV, xg, V.cs, xm, xF, xG, xc, x4, zE, zA, zL, xL, xC, nb1, nb2, nb3, nb4, -map_set]; try omega)) rfl rfl rfl rfl rfl rfl rfl zj zg zg rfl) ?_; refine W23 ?_; refine ⟨_, ?_, F ++ [k], fun y => ?_, by simp; omega, rfl⟩
    ·simp only [map_append, map_cons, map_nil, length_append, length_cons, length_nil, zero_add]
     exact qd
    grind
   rintro s' ⟨F, hF, hFn, rfl⟩; refine x8 ?_
   refine qb (fun s' => ∃ (i : Nat) (B : List (List Nat)), i ≤ la ∧ B.length = n ∧ (∀ (p : Nat) (l : List Nat), B[p]? = some l → l.length ≤ 1000 * k + i ∧ ∀ q, q ∈ l ↔ (q < k ∧ uR ⟨st, sts⟩ p q) ∨ (q = k ∧ ∃ (j : Nat) (a : Ar), j < i ∧ x.arcs[j]? = some a ∧ a.t = (p : Int))) ∧
    s' = ⟨62, [(1, .ref 1 0), (5, .ref 5 0), (6, .own 100 1 F.length (decide (F.length = 0))), (7, .i k), (21, .d (zq sts)), (22, .i n), (23, .i k), (36, .d (zU x.arcs)), (37, .i la), (38, .i i)], [(1, ⟨24, [.i st, .d (zq sts)], false, 0⟩), (5, ⟨84, [.own 19 1 n false], false, 0⟩), (19, ⟨42, FB.cells 1000 B, false, 1⟩), (100, ⟨3, F.map V.n, decide (F.length = 0), 1⟩)] ++ FB.objs 1000 B, []⟩) (fun s' => la - s'.nat 38) ⟨_, ?_, 0, B, by omega, hBn, (fun p l h => ⟨by have := (hB p l h).1; omega, fun q => by rw [(hB p l h).2 q]; simp⟩), rfl⟩ ?_
   ·exact qd
   rintro s' ⟨i, B, hi, hBn, hB, rfl⟩
   by_cases vr : i < la
   ·obtain ⟨y, hy⟩ := zl xr vr
    have hyt := (hz x (mem_of_getElem? hx)).2 y (mem_of_getElem? hy); obtain ⟨yi, yo, yw, yt⟩ := y; simp only [xl, decide_eq_true_eq] at hyt; obtain ⟨p, rfl⟩ : ∃ p : Nat, yt = p := ⟨yt.toNat, by omega⟩; have wa : p < n := by omega
    obtain ⟨l0, hl0⟩ := zl hBn wa; have jC2 : (FB.it l0).length ≤ 1000000 := by have := (hB p l0 hl0).1; simp [FB]; omega
    have hpB : p < B.length := by omega
    have wJ : (B.set p (l0 ++ [k]))[p]? = some (l0 ++ [k]) := by simp [List.getElem?_set, hpB]
    refine W32 ?_; refine zR ?_; refine je (1000 + p) [(0, true), (1, true), (2, true), (3, true), (4, true), (5, true), (6, true), (7, true), (8, true), (9, false), (10, false), (11, false), (12, false)] (fun i => !([11, 12] : List Nat).contains i) 13 zh zh rfl zh ?_; refine AE1.rx rfl rfl rfl (fun _ _ h => h) (wt underlying84 rfl rfl rfl rfl rfl rfl yp) ?_
    refine AE1.rp rfl rfl rfl (fun _ _ h => h) (xe underlying47 rfl rfl rfl zz zj rfl) ?_; refine AE1.rx rfl rfl rfl (fun _ _ h => h) (wt underlying3 rfl rfl rfl rfl rfl rfl yp) ?_; refine AE1.rx rfl rfl rfl (fun _ _ h => h) (wt underlying84 rfl rfl rfl rfl rfl rfl yp) ?_; refine AE1.rp rfl rfl rfl (fun _ _ h => h) (xe underlying47 rfl rfl rfl zz zj rfl) ?_
    refine AE1.rx rfl rfl rfl (fun _ _ h => h) (wt underlying3 rfl rfl rfl rfl rfl rfl yp) ?_; refine AE1.rp rfl rfl rfl (fun _ _ h => h) (vj underlying84 u9 rfl rfl rfl rfl zT9) ?_; refine AE1.rx rfl rfl rfl (fun _ _ h => h) (qb1 (m := 0) underlying42 rfl rfl rfl rfl rfl rfl (fun _ => rfl) rfl zm yp) ?_; refine AE1.rp rfl rfl rfl (fun _ _ h => h) (vC rfl rfl) ?_; refine AE1.go ?_
    refine AE2.sm rfl rfl (q79 (vs := [(0, _)]) (zs := [.i 0]) 51 underlying42 zz rfl rfl zj zj zj rfl rfl rfl rfl (by first | rfl | (simp only [S.clean, S.put, S.newObj, all_cons, zP, reduceLT]; simp [S.forget, V.has, V.hasL, zV, xg, V.cs, xm, xF, xG, xc, x4, zE, zA, zL, xL, xC, nb1, nb2, nb3, nb4, -map_set]; try omega)) rfl rfl) yp ?_
    (refine AE2.st rfl rfl (bR (lits := [_, _, _, _, _, _, _]) (x' := l0 ++ [k]) (m := 0) (newrow := [.p (.int .i64 (k : Int))]) (rb := 19) underlying42 zz rfl zj zj rfl rfl rfl zm (fun _ => rfl) (by intro x l hl; simp [FB] at hl; first | (obtain ⟨_, _, rfl⟩ := hl; rfl) | (obtain ⟨_, _, _, rfl⟩ := hl; rfl) | (rcases hl with ⟨_, _, rfl⟩ <;> rfl)) rfl rfl rfl rfl rfl rfl rfl rfl (by simp [FB]) rfl rfl (by simp [V.hasL, V.has, nb1, nb2, nb3, nb4, xg, V.cs, xm, xF, xG, xc, x4, zE, zA, -map_set]; try omega) (by first | assumption | (simp [FB]; omega))) ?_)
    refine qP8 ?_; refine qH rfl rfl rfl rfl (vj underlying84 u9 rfl rfl rfl rfl zT9) ?_
    (refine qo rfl rfl rfl (q67 (m := 0) u9 rfl rfl rfl rfl rfl rfl (fun _ => rfl) rfl rfl (by first | assumption | (simp; omega))) ?_)
    refine qs5 ?_; refine ⟨_, ?_, ⟨i + 1, B.set p (l0 ++ [k]), by omega, by simpa using hBn, ?_, rfl⟩, ?_⟩
    ·exact qd
    ·grind
    exact zM
   skip; refine ve ?_; refine ⟨_, ?_, ⟨k + 1, F, B, by omega, hF, hFn, hBn, fun p l hl => ⟨by have := (hB p l hl).1; omega, fun q => ?_⟩, rfl⟩, ?_⟩
   ·exact qd
   ·rw [(hB p l hl).2 q]
    constructor
    ·rintro (⟨h1, h2⟩ | ⟨rfl, j, a, h1, h2, h3⟩)
     ·exact ⟨by omega, h2⟩
     exact ⟨by omega, x, a, hx, mem_of_getElem? h2, h3⟩
    rintro ⟨h1, h2⟩
    by_cases e : q = k
    ·subst e
     obtain ⟨s, a, h4, h5, h6⟩ := h2; simp only at h4; rw [hx] at h4; simp only [Option.some.injEq] at h4; subst h4; obtain ⟨j, hj⟩ := List.getElem?_of_mem h5; exact .inr ⟨rfl, j, a, by have := (List.getElem?_eq_some_iff.1 hj).1; omega, hj, h6⟩
    exact .inl ⟨by omega, h2⟩
   exact zM
  obtain rfl : k = n := by omega
  have hFI : ∀ x, x ∈ F ↔ yc ⟨st, sts⟩ x := fun x => by
   rw [hF x]
   exact ⟨fun h => h.2, fun h => ⟨by have := w3 x (.init x h); simpa [hn] using this, h⟩⟩
  obtain ⟨f, hf⟩ : ∃ f, decide (F.length = 0) = f := ⟨_, rfl⟩; rw [hf]; have hFf : f = true → F = [] := by intro h; subst h; simpa using hf
  refine W75 ?_; refine AW.less (s' := ⟨62, [(1, .ref 1 0), (5, .ref 5 0), (6, .own 100 1 F.length f)], [(1, ⟨24, [.i st, .d (zq sts)], false, 0⟩), (5, ⟨84, [.own 19 1 k false], false, 0⟩), (19, ⟨42, FB.cells 1000 B, false, 1⟩), (100, ⟨3, F.map V.n, f, 1⟩)] ++ FB.objs 1000 B, []⟩) qd ?_
  refine j5 (F := FB) (m := 0) (base := 1000) (L := B) [_, _, _, _] 19 rfl rfl rfl rfl (fun _ => rfl) (by intro x l hl; simp [FB] at hl; obtain ⟨_, _, rfl⟩ := hl; rfl) ?_ rfl (by simp [V.hasL, V.has]; intro r hr; omega) rfl rfl ?_
  ·grind [List.getElem?_of_mem, FB]
  refine qs 5 0 24 (B.map FB.data) rfl rfl rfl zj rfl rfl (by simpa using hBn) zg (vx (sz := 1) (fun _ => rfl) rfl) ?_; refine AW.less (s' := ⟨62, [(1, .ref 1 0), (5, .ref 5 0), (6, .own 100 1 F.length f)], [(1, ⟨24, [.i st, .d (zq sts)], false, 0⟩), (5, ⟨84, [.d (.sl 1 24 (B.map qN5))], false, 0⟩), (100, ⟨3, F.map V.n, f, 1⟩)], []⟩) qd ?_; obtain ⟨n, rfl⟩ : ∃ n, n = k := ⟨_, rfl⟩; refine zC ?_
  refine qe rfl rfl (un (vs := [_]) rfl rfl) ?_; refine AL.inline [] (ts := []) (ars := [_, _, _]) rfl rfl ⟨func103, rfl, rfl, rfl, rfl⟩ rfl rfl rfl zx rfl fun kx => ?_; refine jN3 ?_
  refine q9 rfl (vg 13 V.b (false) underlying51 qa1 rfl rfl rfl rfl rfl zg zj (by first | rfl | (simp only [S.clean, S.put, S.newObj, all_cons, zP, reduceLT]; simp [S.forget, V.has, V.hasL, zV, xg, V.cs, xm, xF, xG, xc, x4, zE, zA, zL, xL, xC, nb1, nb2, nb3, nb4, -map_set]; try omega)) rfl) ?_
  refine q9 rfl (zp (l := [.nil]) 7 q42 rfl (by first | rfl | (simp only [S.clean, S.put, S.newObj, all_cons, zP, reduceLT]; simp [S.forget, V.has, V.hasL, zV, xg, V.cs, xm, xF, xG, xc, x4, zE, zA, zL, xL, xC, nb1, nb2, nb3, nb4, -map_set]; try omega)) rfl rfl) ?_; refine qf rfl (vA q42 rfl rfl rfl rfl rfl rfl rfl zT7 rfl) ?_; refine xd ?_
  refine q9 rfl (zp (l := [.nil]) 8 u9 rfl (by first | rfl | (simp only [S.clean, S.put, S.newObj, all_cons, zP, reduceLT]; simp [S.forget, V.has, V.hasL, zV, xg, V.cs, xm, xF, xG, xc, x4, zE, zA, zL, xL, xC, nb1, nb2, nb3, nb4, -map_set]; try omega)) rfl rfl) ?_; refine qf rfl (vA u9 rfl rfl rfl rfl rfl rfl rfl zT7 rfl) ?_; refine xB ?_
  refine qb (fun s' => ∃ (k : Nat) (L : List Bool), k ≤ F.length ∧ L.length = n ∧ (∀ x, L[x]? = some true ↔ x ∈ F.take k) ∧ s' = ⟨44, [(2, .fn 105 [.ref 5 0]), (7, .ref 7 0), (8, .ref 8 0), (15, .own 100 1 F.length f), (16, .i F.length), (17, .i k)], [(1, ⟨24, [.i st, .d (zq sts)], false, 0⟩), (5, ⟨84, [.d (.sl 1 24 (B.map qN5))], false, 0⟩), (100, ⟨3, F.map V.n, f, 1⟩), (7, ⟨51, [.own 13 1 n false], false, 0⟩), (8, ⟨42, [.own 100 1 F.length f], false, 0⟩), (13, ⟨4, L.map V.b, false, 1⟩)], []⟩) (fun s' => F.length - s'.nat 17) ⟨_, ?_, 0, List.replicate n false, by omega, by simp, by simp [List.getElem?_replicate], rfl⟩ ?_
  ·exact qd
  rintro s' ⟨k, L, hk, hL, hLF, rfl⟩
  by_cases zk : k < F.length
  ·obtain ⟨q, hq⟩ := zl rfl zk
   obtain rfl : f = false := by cases f with | false => rfl | true => rw [hFf rfl] at zk; simp at zk
   have hqn : q < n := w3 q (.init q ((hFI q).1 (mem_of_getElem? hq))); have hqL : q < L.length := by omega
   refine jq2 ?_; refine zC ?_; refine ⟨_, ?_, ⟨k + 1, L.set q true, by omega, by simpa using hL, fun x => ?_, rfl⟩, ?_⟩
   ·exact qd
   ·rw [List.getElem?_set, x5 hq, mem_append, ← hLF x]
    by_cases e : q = x
    ·subst e; simp [hqL]
    simp [e, Ne.symm e]
   exact zM
  rw [take_of_length_le zg] at hLF
  have jt0 : Fld (yc ⟨st, sts⟩) (uR ⟨st, sts⟩) n (fun _ => False) L F := Fld.start hL hLF (fun x hx => (hFI x).1 hx)
  have hLi : ∀ x, yc ⟨st, sts⟩ x → L[x]? = some true := fun x hx => (hLF x).2 ((hFI x).2 hx)
  clear hLF; refine xB ?_
  refine qF (fun μ s' => ∃ (L : List Bool) (todo : List Nat), μ ≤ 300 ∧ 2 * L.count false + todo.length ≤ μ ∧ (f = true → todo = []) ∧ Fld (yc ⟨st, sts⟩) (uR ⟨st, sts⟩) n (fun _ => False) L todo ∧ (∀ x, yc ⟨st, sts⟩ x → L[x]? = some true) ∧ s' = ⟨44, [(2, .fn 105 [.ref 5 0]), (7, .ref 7 0), (8, .ref 8 0)], [(1, ⟨24, [.i st, .d (zq sts)], false, 0⟩), (5, ⟨84, [.d (.sl 1 24 (B.map qN5))], false, 0⟩), (100, ⟨3, todo.map V.n, f, 1⟩), (7, ⟨51, [.own 13 1 n false], false, 0⟩), (8, ⟨42, [.own 100 1 todo.length f], false, 0⟩), (13, ⟨4, L.map V.b, false, 1⟩)], []⟩) ⟨_, _, ?_, L, F, by have := List.count_le_length (l := L) (a := false); omega, le_refl _, hFf, jt0, hLi, rfl⟩ ?_
  ·exact qd
  rintro μ s' ⟨L, todo, hμ3, hμ, hft, xA, hLi, rfl⟩
  rcases List.eq_nil_or_concat todo with qg1 | ⟨T, q, hTq⟩
  ·have hz0 : ¬ 0 < todo.length := by simp [qg1]
   have hL := xA.done qg1 (fun _ h => h) hLi w3
   refine xS ?_
   try simp only [wY, ug, ↓reduceIte, Nat.reduceEqDiff, nil_append, cons_append]
   refine ⟨[_], ⟨rfl, trivial⟩, ?_⟩; refine jL8 ?_; refine qk 2 1 (L.map fun b => [.p (.bool b)]) rfl rfl rfl (by rw [length_map, xA.len]) zg (yk rfl) ?_; apply qM; exact ⟨[_, _], zU4, .inr ⟨h0, by rw [h0, hA, ← hL]; rfl⟩, zU0⟩
  rw [List.concat_eq_append] at hTq; subst hTq; obtain rfl : f = false := by cases f with | false => rfl | true => simp at hft
  obtain ⟨t, ht⟩ : ∃ t, T.length = t := ⟨_, rfl⟩; have zI : (T ++ [q]).length = t + 1 := by simp [ht]
  rw [zI] at hμ ⊢; have jX3 : (T ++ [q])[t]? = some q := by simp [← ht]
  obtain ⟨hqL, xA⟩ := xA.take; have hqn : q < n := by have := (List.getElem?_eq_some_iff.1 hqL).1; rw [xA.len] at this; exact this
  have hLs : L.length = n := xA.len; have hcf : L.count false ≤ n := by rw [← hLs]; exact List.count_le_length
  obtain ⟨x, hx⟩ := zl hBn hqn; obtain ⟨la, xr⟩ : ∃ n, x.length = n := ⟨_, rfl⟩; have yO := (hB q x hx).1; rw [xr] at yO; have hxm := (hB q x hx).2; refine vF ?_; refine qe rfl rfl (vj (k := t) underlying42 zz rfl rfl rfl zg zg) ?_; refine xB ?_; refine AL.rd rfl rfl (bb (k := t) underlying42 zz rfl rfl rfl zg zg) ?_; refine W74 ?_; refine jA 100 (T.map V.n) rfl ⟨[V.n q], by simp⟩ ?_; refine xd ?_
  refine qe rfl rfl (un (vs := [_, _]) rfl rfl) ?_; refine AL.inline [2, 7, 8] (ts := [_, _, _]) (ars := [_, _]) rfl rfl ⟨func105, rfl, rfl, rfl, rfl⟩ rfl rfl rfl zx rfl fun kx => ?_; refine jN1 ?_
  refine qb (fun s' => ∃ (i : Nat) (L : List Bool) (T : List Nat), i ≤ la ∧ 2 * L.count false + T.length < μ ∧ Fld (yc ⟨st, sts⟩) (uR ⟨st, sts⟩) n (fun x => x = q) L T ∧ L[q]? = some true ∧ (∀ x, yc ⟨st, sts⟩ x → L[x]? = some true) ∧ (∀ (j p : Nat), j < i → x[j]? = some p → L[p]? = some true) ∧ s' = ⟨20, [(1, .fn 122 [.ref 7 0, .ref 8 0]), (10, .d (.sl 1 8 (x.map fun x : Nat => [.p (.int .i64 (x : Int))]))), (11, .i la), (12, .i i)], [(1, ⟨24, [.i st, .d (zq sts)], false, 0⟩), (5, ⟨84, [.d (.sl 1 24 (B.map qN5))], false, 0⟩), (100, ⟨3, T.map V.n, false, 1⟩), (7, ⟨51, [.own 13 1 n false], false, 0⟩), (8, ⟨42, [.own 100 1 T.length false], false, 0⟩), (13, ⟨4, L.map V.b, false, 1⟩)], [.fn 105 [.ref 5 0], .ref 7 0, .ref 8 0]⟩) (fun s' => la - s'.nat 12) ⟨_, ?_, 0, L, T, by omega, by omega, xA, hqL, hLi, fun j p h => absurd h zg, rfl⟩ ?_
  ·rw [ht]; exact qd
  rintro s' ⟨i, L, T, hi, hμ', xA, hqL, hLi, yS, rfl⟩
  by_cases vr : i < la
  ·obtain ⟨p, hy⟩ := zl xr vr
   obtain ⟨_, q47⟩ := (hxm p).1 (mem_of_getElem? hy); have wa : p < n := by obtain ⟨s, a, h1, _⟩ := q47; have := (List.getElem?_eq_some_iff.1 h1).1; simpa [hn] using this
   have hLs : L.length = n := xA.len; obtain ⟨b, hb⟩ := zl hLs wa; have wl : p < L.length := by omega
   have vY : ∀ L' : List Bool, (∀ z : Nat, L[z]? = some true → L'[z]? = some true) → L'[p]? = some true → ∀ (j r : Nat), j < i + 1 → x[j]? = some r → L'[r]? = some true := by grind
   refine yW ?_; refine AL.inline [1, 10, 11, 12] (ts := [_, _, _, _]) (ars := [_]) rfl rfl ⟨func122, rfl, rfl, rfl, rfl⟩ rfl rfl rfl zx rfl fun kx => ?_; refine jN2 ?_
   cases b with
   | true =>
    refine zR ?_; refine ⟨[], trivial, ?_⟩; refine W20 ?_; refine ⟨_, ?_, ⟨i + 1, L, T, by omega, hμ', xA, hqL, hLi, vY L (fun _ h => h) hb, rfl⟩, ?_⟩
    ·exact qd
    exact zM
   | false =>
    have hc := q18 L hb; refine jq1 ?_; refine zW ?_; refine q9 rfl (zN (vs := [(0, _)]) (zs := [.i 0]) 14 underlying42 zz rfl rfl zj zj zj rfl rfl rfl rfl (by first | rfl | (simp only [S.clean, S.put, S.newObj, all_cons, zP, reduceLT]; simp [S.forget, V.has, V.hasL, zV, xg, V.cs, xm, xF, xG, xc, x4, zE, zA, zL, xL, xC, nb1, nb2, nb3, nb4, -map_set]; try omega)) rfl rfl) ?_
    refine qf rfl (xK underlying42 zz rfl zj rfl rfl rfl rfl rfl rfl zT5 (by first | rfl | (simp only [S.clean, S.put, S.newObj, all_cons, zP, reduceLT]; simp [S.forget, V.has, V.hasL, zV, xg, V.cs, xm, xF, xG, xc, x4, zE, zA, zL, xL, xC, nb1, nb2, nb3, nb4, -map_set]; try omega)) rfl rfl rfl rfl rfl rfl rfl zj zg zg rfl) ?_; refine jb8 ?_; refine W74 ?_; refine ⟨[], trivial, ?_⟩; refine W20 ?_
    refine ⟨_, ?_, ⟨i + 1, L.set p true, T ++ [p], by omega, by simp; omega, xA.push hqL q47 hb, yh hqL, fun z hz => yh (hLi z hz), vY _ (fun _ h => yh h) (by rw [List.getElem?_set_self wl]), rfl⟩, ?_⟩
    ·simp only [map_append, map_cons, map_nil, length_append, length_cons, length_nil, zero_add]
     exact qd
    exact zM
  skip; refine zY ?_; refine ⟨[], trivial, ?_⟩; refine jM0 ?_; refine ⟨_, _, ?_, ⟨L, T, ?_, le_refl _, by simp, xA.settle (fun p he hp => ?_), hLi, rfl⟩, hμ'⟩
  ·exact qd
  ·omega
  grind [List.getElem?_of_mem, List.getElem?_eq_some_iff]
 obtain ⟨st, sts⟩ := m; obtain ⟨e, he⟩ : ∃ e, zn ⟨st, sts⟩ = e := ⟨_, rfl⟩; rw [he] at h0 ⊢; refine qc 62 fun w0 out => ?_; refine qf2 ?_; refine qa (Fn.eqi (we ⟨st, sts⟩) he) ?_; refine W93 ?_; exact ⟨[_, _], zU4, .inl ⟨h0, rfl⟩, zU0⟩
theorem j53 (m : zr) : Fn prog 72 [mV m] (fun v => v = .tup [.d (y6 (yU m)), .i (zn m)]) := (jt7 m).wk (qR7 m)
section
variable {c : Cx} {s : S} {o : Oper}
theorem jt8 {t t' e : TypeId} {x y : Operand} {rows : List (List D)} (hu : c.P.underlying t = some (.slice e)) (ho : o.op = .binOp .eql t x y t') (hx : s.ev x = some (.d (.sl sz bt rows))) (hy : s.ev y = some .nil) (hd : dok s o = true) :
  StepM c o s (fun s' => ∃ v, (∃ b : Bool, v = .b b ∧ (b = true → rows = [])) ∧ v.pure ∧ s' = s.put o.dst v) := by
 intro g a w hs K Q hK; have h := hs.ev hx; have hyv := VRep.p_eq (hs.ev hy)
 have zv : ∀ (ad : Option Addr) (n cap : Nat), (binOp .eql t (.slice ad n cap) (.slice none 0 0)).run c.P w = .ok (.bool ad.isNone) w := by
  intro ad n cap
  have key : ∀ d : Nat, (Op.equalIn (d + 1) t (.slice ad n cap) (.slice none 0 0)).run c.P w = .ok ad.isNone w := fun d => by
   cases ad <;> simp [Op.equalIn, run_underlying hu]
  have h2 : (Op.equal t (.slice ad n cap) (.slice none 0 0)).run c.P w = .ok ad.isNone w := key 9999; simp only [binOp, Sem.run_bind, h2, Result.andThen_ok]; rfl
 have hgd : ∀ (ad : Option Addr) (n cap : Nat), (eqGuard .eql t x y (.slice ad n cap) (.slice none 0 0)).run c.P w = .ok () w := by
  intro ad n cap; simp [eqGuard]
 generalize hxx : a.eval x = u at h
 cases h with
 | d _ _ h =>
  cases h with
  | sl _ _ _ ad cap b o' f _ ha hl hc hr =>
   unfold Oper.wp
   have xP : (execOp a.eval o).run c.P w = .ok (.value (.bool ad.isNone)) w := by
    simp only [execOp, ho, hxx, hyv, Sem.run_bind, hgd, zv, Result.andThen_ok]; rfl
   rw [xP]; refine hK g _ _ _ ⟨.b ad.isNone, ⟨_, rfl, fun hb => ?_⟩, by simp [V.pure, V.has], rfl⟩ (hs.put o.dst (zJ hd) (.d _ _ (.p _))) (Below.refl _ _)
   by_cases h0 : rows = []
   ·exact h0
   obtain ⟨rfl, _⟩ := ha h0
   cases hb
theorem qI6 (r : Nat) {t e : TypeId} (hu : c.P.underlying t = some (.slice e)) (hi : Inf c.P e sz bt z) (ho : o.op = .buildSlice t 0 #[]) (hr : s.clean r = true) (hd : dok s o = true) :
  StepM c o s (fun s' => s' = s.newObj r ⟨e, [], false, sz⟩ o.dst (.own r sz 0 false)) :=
 (qA9 (cap := 0) hr rfl rfl hd (fun g a w hs => by
  refine ⟨#[], .slice (some ⟨w.heap.size, 0, none⟩) 0 0, fun _ => by simp, ?_, fun j u hu => by simp at hu, ?_⟩
  ·simp [execOp, ho, Instr.buildSlice, run_underlying hu, vP hi, newRow, Instr.fill]
   rw [show (Array.map (fun _ => (default : Value)) (Array.range 0)) = #[] from Array.eq_empty_of_size_eq_zero zx]
  exact VRep.own (g := fun _ => (w.heap.size, 0)) _ _ _ (le_refl _) (by simp only [maxLen]; omega)) ⟨0, .inr ⟨_, _, rfl⟩⟩).stepM
theorem qc6 {t e : TypeId} {x y : Operand} {r n sz' bt' : Nat} {f : Bool} (hu : c.P.underlying t = some (.slice e)) (hi : Inf c.P e sz bt z)
  (ho : o.op = .call { callee := .builtin .append, args := #[x, y], argTypes := #[t, t] }) (hx : s.ev x = some (.own r sz n f)) (hy : s.ev y = some (.d (.sl sz' bt' []))) : RP c o s (.own r sz n f) := fun g a w hs => by
 have h := hs.ev hx; have h2 := hs.ev hy; obtain ⟨i, hi1, hi2, hi3, hi4⟩ := hi.out
 obtain ⟨ad, cap, hyv⟩ : ∃ ad cap, a.eval y = .slice ad 0 cap := by
  generalize a.eval y = u at h2
  cases h2 with
  | d _ _ h => cases h with | sl _ _ _ ad cap => exact ⟨ad, cap, rfl⟩
 refine ⟨a.eval x, h, fun w' => ?_⟩; generalize hxx : a.eval x = u at h
 have jP8 : Src c.P i.size t (.slice ad 0 cap) 0 [] w' := by
  cases ad
  ·exact ⟨.inl ⟨e, hu⟩, fun _ => rfl, by simp [Builtin.firstCells, Sem.run], by simp [Builtin.firstCells, Sem.run], by simp, by simp⟩
  exact ⟨.inl ⟨e, hu⟩, fun _ => rfl, by simp [Builtin.firstCells, Sem.run, loadCells, loadCellsFrom], by simp [Builtin.firstCells, Sem.run, loadCells, loadCellsFrom], by simp, by simp⟩
 cases h with
 | own _ _ _ hn vK =>
  simp only [execOp, ho, resolve, invoke, builtin, Sem.run_bind, Sem.run_pure, Result.andThen_ok, map_toArray, map_cons, map_nil, hxx, hyv]; rw [run_append_nothing w' t t o.type e i hu hi1 _ n (g r).2 hn _ jP8]; rfl
 | ownNil =>
  simp only [execOp, ho, resolve, invoke, builtin, Sem.run_bind, Sem.run_pure, Result.andThen_ok, map_toArray, map_cons, map_nil, hxx, hyv]; rw [run_append_nothing w' t t o.type e i hu hi1 none 0 0 (le_refl _) _ jP8]; rfl
end
theorem bU (x : Int) : Fn prog 102 [.i x] (fun v => v = .b false) := by
 refine qc 6 fun w0 out => ?_; refine ve ?_; exact ⟨[_], ⟨rfl, trivial⟩, rfl, zU2⟩
theorem qx8 (x y : Int) : Fn prog 70 [.i x, .i y] (fun v => v = .i (yX x y)) := by
 refine qc 20 fun w0 out => ?_
 by_cases h1 : x < y
 ·skip
  refine zC ?_; refine qa (bU _) ?_; refine W25 ?_; refine qa (bU _) ?_; refine zQ ?_
  iterate 25 refine Dv ?_
  exact ⟨[_], ⟨rfl, trivial⟩, by simp [zZ, yX, h1], zU2⟩
 by_cases h2 : y < x
 ·skip
  refine zC ?_; refine qa (bU _) ?_; refine W25 ?_; refine qa (bU _) ?_; refine zQ ?_
  iterate 33 refine Dv ?_
  exact ⟨[_], ⟨rfl, trivial⟩, by simp [zZ, yX, h1, h2], zU2⟩
 skip; refine zC ?_; refine qa (bU _) ?_; refine W25 ?_; refine qa (bU _) ?_; refine zQ ?_
 iterate 34 refine Dv ?_
 exact ⟨[_], ⟨rfl, trivial⟩, by simp [zZ, yX, h1, h2], zU2⟩
theorem jX7 (l : List Int) : Fn prog 69 [.d (ua l)] (fun v => v = .i (orI l)) := by
 refine Fn.sl 0 rfl fun hb => ?_; obtain ⟨len, hn⟩ : ∃ n, l.length = n := ⟨_, rfl⟩; rw [length_map, hn] at hb; refine qc 18 fun w0 out => ?_; refine xS ?_; refine qb (fun s' => ∃ k : Nat, k ≤ len ∧ orI (l.drop k) = orI l ∧ s' = ⟨18, [(3, .i 0), (6, .d (ua l)), (7, .i len), (8, .i k)], [], []⟩) (fun s' => len - s'.nat 8) ⟨_, ?_, 0, by omega, by simp, rfl⟩ ?_
 ·exact q8
 rintro s' ⟨k, hk, hor, rfl⟩
 by_cases zk : k < len
 ·obtain ⟨x, hx⟩ := zl hn zk
  by_cases h0 : x = 0
  ·skip
   refine gC ?_; refine ⟨_, ?_, ⟨k + 1, by omega, by rw [← qR4 hx h0]; exact hor, rfl⟩, ?_⟩
   ·exact q8
   exact zM
  have hE := j38 hx h0; rw [hor] at hE; refine gC ?_; exact ⟨[_], ⟨rfl, trivial⟩, by rw [hE]; rfl, zU2⟩
 have hE := j39 (l := l) (k := k) zg; rw [hor] at hE; refine xu ?_; exact ⟨[_], ⟨rfl, trivial⟩, by rw [hE]; rfl, zU2⟩
theorem qT6 (m : zr) : Fn prog 33 [mV m] (fun v => (zn m ≠ 0 ∧ v = .tup [.agg [.i 0, .nil], .i (zn m)]) ∨ (zn m = 0 ∧ v = .tup [mV (x9 m), .i (zn m)])) := by
 refine qD m 0 rfl fun hb wm => ?_
 by_cases h0 : zn m = 0
 ·obtain ⟨hz1, hz2, hz3, hz⟩ := xj h0
  have hT : x9 m = ⟨pl (yV m) m.start, (yV m).map fun q => wq (yV m) (m.states.getD q ⟨0, []⟩)⟩ := by unfold x9; rw [if_pos h0]
  have w5 := qf9 h0; have hBl := qm0 h0; obtain ⟨A, hA⟩ : ∃ A, wE m = A := ⟨_, rfl⟩; obtain ⟨B, hB⟩ : ∃ B, yU m = B := ⟨_, rfl⟩
  have hK : ∀ q a b, A[q]? = some a → B[q]? = some b → gx m q = (a && b) := fun q a b ha hb => qt2 (by rw [hA]; exact ha) (by rw [hB]; exact hb)
  have wZ : yV m = (List.range m.states.length).filter (gx m) := rfl; obtain ⟨K, hKd⟩ : ∃ K, gx m = K := ⟨_, rfl⟩; obtain ⟨kept, hkd⟩ : ∃ kept, yV m = kept := ⟨_, rfl⟩; obtain ⟨T, hTd⟩ : ∃ T, x9 m = T := ⟨_, rfl⟩; rw [hKd] at hK wZ; rw [hkd] at wZ hT; rw [hTd] at hT ⊢; obtain ⟨st, sts⟩ := m; simp only at hz1 hz2 hz3 hz hb wm w5 hBl wZ hT; rw [hA] at w5; rw [hB] at hBl
  obtain ⟨n, hn⟩ : ∃ n, sts.length = n := ⟨_, rfl⟩; rw [hn] at hz1 hz3 hz hb w5 hBl wZ; refine qc 118 fun w0 out => ?_; refine W96 ?_; refine qa (Fn.eqv (qt3 ⟨st, sts⟩) (by rw [hA, h0])) ?_; refine zQ ?_; refine uq ?_; refine qa (Fn.eqv (j53 ⟨st, sts⟩) (by rw [hB, h0])) ?_; refine zQ ?_; refine jN5 ?_; refine xS ?_
  have wl : ∀ q, q < n → pl kept (q : Int) = if K q then (((List.range q).filter K).length : Int) else -1 := fun q hq => by rw [wZ]; exact qH8 hq
  refine qb (fun s' => ∃ (k : Nat) (N : List Int), k ≤ n ∧ N.length = n ∧ (∀ q, q < k → N[q]? = some (pl kept q)) ∧ s' = ⟨118, [(1, .ref 1 0), (2, .ref 2 0), (4, .d (y6 A)), (6, .d (y6 B)), (8, .own 34 1 n false), (9, .i ((List.range k).filter K).length), (37, .i n), (38, .i k)], [(1, ⟨24, [.i st, .d (zq sts)], false, 0⟩), (2, ⟨24, [.i 0, .nil], false, 0⟩), (34, ⟨3, N.map V.i, false, 1⟩)], []⟩) (fun s' => n - s'.nat 38) ⟨_, ?_, 0, List.replicate n 0, by omega, by simp, (fun q h => absurd h zg), rfl⟩ ?_
  ·exact q8
  rintro s' ⟨k, N, hk, hN, hNq, rfl⟩; have hlk := yN K k
  by_cases zk : k < n
  ·obtain ⟨a, ha⟩ := zl w5 zk
   obtain ⟨b, hb'⟩ := zl hBl zk; have hKk := hK k a b ha hb'; have yQ := wl k zk; have hsk := yy K k; have hkN : k < N.length := by omega
   have k60 : k < (N.set k (-1)).length := by simpa using hkN
   have yT : ∀ v : Int, v = pl kept k → ∀ q, q < k + 1 → (N.set k v)[q]? = some (pl kept q) := by grind
   have qT7 : ∀ v : Int, v = pl kept k → ∀ q, q < k + 1 → ((N.set k (-1)).set k v)[q]? = some (pl kept q) := by grind
   cases a with
   | true =>
    cases b with
    | true =>
     simp only [hKk, Bool.and_self, if_true] at hsk yQ; refine W51 ?_; refine jO7 ?_; refine ve ?_; refine ⟨_, ?_, ⟨k + 1, _, by omega, by simpa using hN, qT7 _ yQ.symm, rfl⟩, ?_⟩
     ·rw [hsk]
      simp only [length_append, length_cons, length_nil, zero_add]; exact q8
     exact zM
    | false =>
     simp only [hKk, Bool.and_false, false_eq_true, if_false, append_nil] at hsk yQ; refine W51 ?_; refine gi ?_; refine ⟨_, ?_, ⟨k + 1, _, by omega, by simpa using hN, yT _ yQ.symm, rfl⟩, ?_⟩
     ·rw [hsk]
      exact q8
     exact zM
   | false =>
    simp only [hKk, Bool.false_and, false_eq_true, if_false, append_nil] at hsk yQ; refine W51 ?_; refine gi ?_; refine ⟨_, ?_, ⟨k + 1, _, by omega, by simpa using hN, yT _ yQ.symm, rfl⟩, ?_⟩
    ·rw [hsk]
     exact q8
    exact zM
  obtain rfl : k = n := by omega
  rw [← wZ] at hlk; obtain ⟨c, hc⟩ : ∃ c, kept.length = c := ⟨_, rfl⟩; rw [hc] at hlk; refine W75 ?_; refine qk 8 8 (N.map fun x => [.p (.int .i64 x)]) rfl rfl rfl (by rw [length_map, hN]) zg (yk rfl) ?_; refine AW.less (s' := ⟨118, [(1, .ref 1 0), (2, .ref 2 0), (8, .d (ua N))], [(1, ⟨24, [.i st, .d (zq sts)], false, 0⟩), (2, ⟨24, [.i 0, .nil], false, 0⟩)], []⟩) q8 ?_; refine Dv ?_; refine jM6 ?_
  refine zR ?_; refine qn (fun s' => s' = ⟨118, [(1, .ref 1 0), (2, .ref 2 0), (8, .d (ua N)), (11, .ref 11 0)], [(1, ⟨24, [.i st, .d (zq sts)], false, 0⟩), (2, ⟨24, [.i 0, .nil], false, 0⟩), (11, ⟨24, [.i (pl kept st), .nil], false, 0⟩)], []⟩) ?_ ?_
  ·skip
   by_cases hs0 : 0 ≤ st
   ·obtain ⟨p, rfl⟩ : ∃ p : Nat, st = p := ⟨st.toNat, by omega⟩
    have hNp := hNq p zg; refine xS ?_; refine W72 ?_; refine ⟨_, ?_, rfl⟩; exact q8
   have wa : pl kept st = -1 := ji3 _ zg; refine x8 ?_; refine ⟨_, ?_, rfl⟩; rw [wa]; exact q8
  rintro s' rfl; obtain ⟨n, rfl⟩ : ∃ n, n = k := ⟨_, rfl⟩; refine qq 11 1 101 2 35 rfl rfl rfl zT4 ?_; refine xB ?_
  refine qb (fun s' => ∃ k : Nat, k ≤ n ∧ s' = ⟨118, [(1, .ref 1 0), (2, .ref 2 0), (8, .d (ua N)), (11, .ref 11 0), (72, .d (zq sts)), (73, .i n), (74, .i k)], [(1, ⟨24, [.i st, .d (zq sts)], false, 0⟩), (2, ⟨24, [.i 0, .nil], false, 0⟩), (11, ⟨24, [.i (pl kept st), .own 101 2 ((List.range k).filter K).length (decide (((List.range k).filter K).length = 0))], false, 0⟩), (101, ⟨35, (((List.range k).filter K).map fun q => wq kept (sts.getD q ⟨0, []⟩)).flatMap xT, decide (((List.range k).filter K).length = 0), 2⟩)], []⟩) (fun s' => n - s'.nat 74) ⟨_, ?_, 0, by omega, rfl⟩ ?_
  ·exact q8
  rintro s' ⟨k, hk, rfl⟩; have hlk := yN K k
  by_cases zk : k < n
  ·obtain ⟨x, hx⟩ := zl hn zk
   have hNk := hNq k zk; have yQ := wl k zk; have hsk := yy K k
   by_cases hKk : K k = true
   ·rw [if_pos hKk] at yQ hsk
    have gA : ¬ pl kept k < 0 := by rw [yQ]; omega
    obtain ⟨la, xr⟩ : ∃ n, x.arcs.length = n := ⟨_, rfl⟩; have yO := le_trans (yq sts x (mem_of_getElem? hx)) hz2; rw [xr] at yO; have hxd : sts.getD k ⟨0, []⟩ = x := by simp [getD_eq_getElem?_getD, hx]
    have xA : ((((List.range k).filter K).map fun q => wq kept (sts.getD q ⟨0, []⟩)).flatMap xT).length = ((List.range k).filter K).length * 2 := by rw [vh (sz := 2) (fun _ => rfl), length_map]
    refine wn ?_; refine q9 rfl (zp (l := [.i 0, .nil]) 13 xD rfl zT0 rfl rfl) ?_; refine jN8 ?_; refine q9 rfl (zp (l := [.i 0, .nil]) 14 xD rfl zT0 rfl rfl) ?_; refine q34 ?_; refine qq 14 1 102 4 47 rfl rfl rfl zT4 ?_; refine x8 ?_
    refine qb (fun s' => ∃ i : Nat, i ≤ la ∧ s' = ⟨118, [(1, .ref 1 0), (2, .ref 2 0), (8, .d (ua N)), (11, .ref 11 0), (14, .ref 14 0), (72, .d (zq sts)), (73, .i n), (74, .i k), (88, .d (zU x.arcs)), (89, .i la), (90, .i i)], [(1, ⟨24, [.i st, .d (zq sts)], false, 0⟩), (2, ⟨24, [.i 0, .nil], false, 0⟩), (11, ⟨24, [.i (pl kept st), .own 101 2 ((List.range k).filter K).length (decide (((List.range k).filter K).length = 0))], false, 0⟩), (101, ⟨35, (((List.range k).filter K).map fun q => wq kept (sts.getD q ⟨0, []⟩)).flatMap xT, decide (((List.range k).filter K).length = 0), 2⟩), (14, ⟨35, [.i x.fin, .own 102 4 ((x.arcs.take i).filterMap (vq kept)).length (decide (((x.arcs.take i).filterMap (vq kept)).length = 0))], false, 0⟩), (102, ⟨47, ((x.arcs.take i).filterMap (vq kept)).flatMap vG, decide (((x.arcs.take i).filterMap (vq kept)).length = 0), 4⟩)], []⟩) (fun s' => la - s'.nat 90) ⟨_, ?_, 0, by omega, rfl⟩ ?_
    ·exact q8
    rintro s' ⟨i, hi, rfl⟩
    have hfm : ((x.arcs.take i).filterMap (vq kept)).length ≤ la := by
     have := List.length_filterMap_le (vq kept) (x.arcs.take i); rw [length_take] at this; omega
    have qg0 : (((x.arcs.take i).filterMap (vq kept)).flatMap vG).length = ((x.arcs.take i).filterMap (vq kept)).length * 4 := vh (sz := 4) (fun _ => rfl)
    by_cases vr : i < la
    ·obtain ⟨y, hy⟩ := zl xr vr
     have hyt := (hz x (mem_of_getElem? hx)).2 y (mem_of_getElem? hy); have uh := bO (vq kept) hy; obtain ⟨yi, yo, yw, yt⟩ := y; simp only [xl, decide_eq_true_eq] at hyt; obtain ⟨p, rfl⟩ : ∃ p : Nat, yt = p := ⟨yt.toNat, by omega⟩; have hNp := hNq p zg
     by_cases hp : 0 ≤ pl kept p
     ·have hty : vq kept ⟨yi, yo, yw, p⟩ = some ⟨yi, yo, yw, pl kept p⟩ := by unfold vq; rw [if_pos hp]
      rw [hty, Option.toList] at uh; refine jO3 ?_; refine xX ?_; refine q32 ?_; refine xu ?_; refine q9 rfl (zN (vs := [(0, _)]) (zs := [.i 0, .i 0, .i 0, .i 0]) 106 underlying33 zO rfl rfl zj zj zj rfl rfl rfl rfl zT0 rfl rfl) ?_; refine W0 ?_; refine W34 ?_; refine zC ?_; refine ⟨_, ?_, ⟨i + 1, by omega, rfl⟩, ?_⟩
      ·rw [uh]
       simp only [flatMap_append, flatMap_cons, flatMap_nil, append_nil, length_append, length_cons, length_nil, zero_add]; exact q8
      exact zM
     have hty : vq kept ⟨yi, yo, yw, p⟩ = none := by unfold vq; rw [if_neg hp]
     rw [hty, Option.toList, append_nil] at uh; refine jO3 ?_; refine xX ?_; refine W79 ?_; refine ⟨_, ?_, ⟨i + 1, by omega, rfl⟩, ?_⟩
     ·rw [uh]
      exact q8
     exact zM
    have wR : x.arcs.take i = x.arcs := take_of_length_le zg; rw [wR] at hfm qg0 ⊢; refine zY ?_; refine qs 14 1 32 ((x.arcs.filterMap (vq kept)).map arD) rfl rfl rfl zj rfl rfl (by rw [length_map]) zg (vx (enc := arD) (sz := 4) (l := x.arcs.filterMap (vq kept)) (fun _ => rfl) rfl) ?_
    refine AW.less (s' := ⟨118, [(1, .ref 1 0), (2, .ref 2 0), (8, .d (ua N)), (11, .ref 11 0), (14, .ref 14 0), (72, .d (zq sts)), (73, .i n), (74, .i k)], [(1, ⟨24, [.i st, .d (zq sts)], false, 0⟩), (2, ⟨24, [.i 0, .nil], false, 0⟩), (11, ⟨24, [.i (pl kept st), .own 101 2 ((List.range k).filter K).length (decide (((List.range k).filter K).length = 0))], false, 0⟩), (101, ⟨35, (((List.range k).filter K).map fun q => wq kept (sts.getD q ⟨0, []⟩)).flatMap xT, decide (((List.range k).filter K).length = 0), 2⟩), (14, ⟨35, [.i x.fin, .d (zU (x.arcs.filterMap (vq kept)))], false, 0⟩)], []⟩) q8 ?_
    refine zW ?_; refine q9 rfl (zN (vs := [(0, _)]) (zs := [.i 0, .nil]) 113 underlying22 xD rfl rfl zj zj zj rfl rfl rfl rfl zT0 rfl rfl) ?_; refine W2 ?_; refine W39 ?_; refine zC ?_; refine ⟨_, ?_, ⟨k + 1, by omega, rfl⟩, ?_⟩
    ·rw [hsk]
     simp only [map_append, map_cons, map_nil, hxd, flatMap_append, flatMap_cons, flatMap_nil, append_nil, length_append, length_cons, length_nil, zero_add]; exact q8
    exact zM
   rw [if_neg hKk] at yQ hsk; rw [append_nil] at hsk; have y7 : pl kept k < 0 := by rw [yQ]; omega
   refine wn ?_; refine q9 rfl (zp (l := [.i 0, .nil]) 13 xD rfl zT0 rfl rfl) ?_; refine uy ?_; refine ⟨_, ?_, ⟨k + 1, by omega, rfl⟩, ?_⟩
   ·rw [hsk]
    exact q8
   exact zM
  obtain rfl : k = n := by omega
  rw [← wZ, hc]; refine W75 ?_; refine qs 11 1 32 ((kept.map fun q => wq kept (sts.getD q ⟨0, []⟩)).map stD) rfl rfl rfl zj rfl rfl (by simp [hc]) zg (vx (enc := stD) (sz := 2) (l := kept.map fun q => wq kept (sts.getD q ⟨0, []⟩)) (fun _ => rfl) rfl) ?_; refine zY ?_; exact ⟨[_, _], zU1, .inr ⟨h0, by rw [hT, h0]; rfl⟩, zU0⟩
 obtain ⟨st, sts⟩ := m; obtain ⟨e, he⟩ : ∃ e, zn ⟨st, sts⟩ = e := ⟨_, rfl⟩; obtain ⟨A, hA⟩ : ∃ A, wE ⟨st, sts⟩ = A := ⟨_, rfl⟩; rw [he] at h0 ⊢; refine qc 118 fun w0 out => ?_; refine W96 ?_; refine qa (Fn.eqv (qt3 ⟨st, sts⟩) (by rw [hA, he])) ?_; refine W93 ?_; refine W14 ?_; exact ⟨[_, _], zU1, .inl ⟨h0, rfl⟩, zU0⟩
def FE : Fam (List (Nat × Nat)) := ⟨104, 2, 16, fun _ => [], fun l => l.map fun e => [.p (.int .i64 (e.1 : Int)), .p (.int .i64 (e.2 : Int))]⟩
theorem jt9 (m : zr) : Fn prog 34 [mV m] (qS6 (wL (enD m) m) (wM (enD m) m)) := by
 by_cases h0 : zn m = 0
 ·obtain ⟨xZ, vw, xR, hz⟩ := xj h0
  have jt6 := fun v => j48 (D := enD m) (v := v) h0
  obtain ⟨st, sts⟩ := m; simp only at xZ vw xR hz
  have ui : ∀ x ∈ sts, x.arcs.length ≤ 400 := fun x hx => le_trans (yq sts x hx) vw
  have hFr : enF ⟨st, sts⟩ = bl (fun q => stF sts q) sts.length := rfl
  have hEr : enE ⟨st, sts⟩ = bl (fun p => vd sts p sts.length) sts.length := rfl
  have hEl : ∀ l ∈ enE ⟨st, sts⟩, l.length ≤ 24000 ∧ ∀ p w, (p, w) ∈ l → p < sts.length ∧ w ≤ 1000000000 := by
   intro l hl; obtain ⟨p0, hq⟩ := List.getElem?_of_mem hl; obtain ⟨hqn, rfl⟩ := yx hq; refine ⟨by have := q19 ui p0 sts.length; (try simp only); omega, fun q w hpw => ?_⟩; obtain ⟨q', a, h1, h2, _, h4⟩ := (q20 _).1 hpw; have h1 : q' < sts.length := h1; simp only [Prod.mk.injEq] at h4; have hx : sts[q']? = some sts[q'] := List.getElem?_eq_getElem h1; rw [wo hx] at h2
   have h3 := (hz _ (List.getElem_mem h1)).2 a h2; simp only [xl, decide_eq_true_eq] at h3; omega
  have hFx : ∀ x ∈ enF ⟨st, sts⟩, x ≤ 1000000001 := by
   intro x hx; obtain ⟨q, hq⟩ := List.getElem?_of_mem hx; obtain ⟨hqn, rfl⟩ := yx hq; have hx : sts[q]? = some sts[q] := List.getElem?_eq_getElem hqn; have h1 := (hz _ (List.getElem_mem hqn)).1; simp [vy] at h1; have h2 := qc5 hx; unfold stF at h2
   (try simp only)
   omega
  have qt4 := (jP7 (enF ⟨st, sts⟩) (enE ⟨st, sts⟩) sts.length (w4 _ _) (w4 _ _) xZ hFx hEl).mono (fun v => jt6 v)
  obtain ⟨n, hn⟩ : ∃ n, sts.length = n := ⟨_, rfl⟩; rw [hn] at xZ xR hz hFr hEr hEl; refine qc 66 fun w0 out => ?_; refine qf2 ?_; refine qa (Fn.eqi (we ⟨st, sts⟩) h0) ?_; refine qe9 ?_; refine q9 rfl (vg 19 V.i (0) underlying42 zz rfl rfl rfl rfl rfl zg zj rfl rfl) ?_; refine W70 ?_; refine q34 ?_
  refine jc FE 1000 23 (List.replicate n []) rfl rfl (by rw [qb0]; simp [FE]) (by intro x hx; rw [List.eq_of_mem_replicate hx]; rfl) rfl ?_
  have hz0 : (List.replicate n (0 : Int)).map V.i = (bl (fun q => if q < 0 then stF sts q else 0) n).map V.n := by rw [show (bl (fun q => if q < 0 then stF sts q else 0) n) = List.replicate n 0 by rw [ql3]; exact wh fun q _ => by simp]; simp
  have hb0 : (List.replicate n ([] : List (Nat × Nat))) = (bl (fun p => vd sts p 0) n) := by rw [ql3]; rfl
  rw [hz0, hb0]; refine x8 ?_
  refine qb (fun s' => ∃ k : Nat, k ≤ n ∧ s' = ⟨66, [(1, .ref 1 0), (5, .own 19 1 n false), (6, .own 23 1 n false), (25, .d (zq sts)), (26, .i n), (27, .i k)], [(1, ⟨24, [.i st, .d (zq sts)], false, 0⟩), (19, ⟨3, (bl (fun q => if q < k then stF sts q else 0) n).map V.n, false, 1⟩), (23, ⟨102, FE.cells 1000 (bl (fun p => vd sts p k) n), false, 1⟩)] ++ FE.objs 1000 (bl (fun p => vd sts p k) n), []⟩) (fun s' => n - s'.nat 27) ⟨_, ?_, 0, by omega, rfl⟩ ?_
  ·exact qd
  rintro s' ⟨k, hk, rfl⟩
  by_cases zk : k < n
  ·obtain ⟨x, hx⟩ := zl hn zk
   obtain ⟨la, xr⟩ : ∃ n, x.arcs.length = n := ⟨_, rfl⟩; have yO := ui x (mem_of_getElem? hx); rw [xr] at yO; have hxf := (hz x (mem_of_getElem? hx)).1; have hza := (hz x (mem_of_getElem? hx)).2; have hkf := qc5 hx; have qT8 := wo hx; obtain ⟨xf, xa⟩ := x; simp only [vy, decide_eq_true_eq] at hxf xr hza qT8; obtain ⟨f, rfl⟩ : ∃ f : Nat, xf = f := ⟨xf.toNat, by omega⟩
   simp only [Int.toNat_natCast] at hkf
   have hkC : k < (bl (fun q => if q < k then stF sts q else 0) n).length := by rw [w4]; exact zk
   have hCn : (bl (fun q => if q < k then stF sts q else 0) n).set k f = (bl (fun q => if q < (k + 1) then stF sts q else 0) n) := bf zk (by rw [if_pos zg, hkf]) fun q _ hq => by grind
   refine W36 ?_; refine xX ?_; refine qf rfl (zX (v := f) zz rfl rfl rfl rfl rfl rfl rfl rfl zT9) ?_; refine xB ?_
   refine qb (fun s' => ∃ i : Nat, i ≤ la ∧ s' = ⟨66, [(1, .ref 1 0), (5, .own 19 1 n false), (6, .own 23 1 n false), (7, .i k), (25, .d (zq sts)), (26, .i n), (27, .i k), (38, .d (zU xa)), (39, .i la), (40, .i i)], [(1, ⟨24, [.i st, .d (zq sts)], false, 0⟩), (19, ⟨3, (bl (fun q => if q < (k + 1) then stF sts q else 0) n).map V.n, false, 1⟩), (23, ⟨102, FE.cells 1000 (bl (fun p => vd sts p k ++ eTo p k (xa.take i)) n), false, 1⟩)] ++ FE.objs 1000 (bl (fun p => vd sts p k ++ eTo p k (xa.take i)) n), []⟩) (fun s' => la - s'.nat 40) ⟨_, ?_, 0, by omega, rfl⟩ ?_
   ·have e : (bl (fun p => vd sts p k ++ eTo p k (xa.take 0)) n) = (bl (fun p => vd sts p k) n) := wh fun q _ => by simp [eTo]
    rw [e, ← hCn]; exact qd
   rintro s' ⟨i, hi, rfl⟩
   by_cases vr : i < la
   ·obtain ⟨y, hy⟩ := zl xr vr
    have hyt := hza y (mem_of_getElem? hy)
    have vl := fun p => qS5 p k hy
    obtain ⟨yi, yo, yw, yt⟩ := y; simp only [xl, decide_eq_true_eq] at hyt; obtain ⟨p, rfl⟩ : ∃ p : Nat, yt = p := ⟨yt.toNat, by omega⟩; obtain ⟨w, rfl⟩ : ∃ w : Nat, yw = w := ⟨yw.toNat, by omega⟩; have wa : p < n := by omega
    obtain ⟨Pf, hPf⟩ : ∃ P, vd sts p k ++ eTo p k (xa.take i) = P := ⟨_, rfl⟩
    have wy : Pf.length ≤ 24400 := by
     have h1 := q19 ui p k; have h2 := qC9 p k (xa.take i); rw [length_take] at h2; rw [← hPf, length_append]; omega
    have hp0 : (bl (fun p => vd sts p k ++ eTo p k (xa.take i)) n)[p]? = some Pf := by rw [w8 wa, ← hPf]
    have hkl := (List.getElem?_eq_some_iff.1 hp0).1; have wJ : ((bl (fun p => vd sts p k ++ eTo p k (xa.take i)) n).set p (Pf ++ [(k, w)]))[p]? = some (Pf ++ [(k, w)]) := by rw [List.getElem?_set_self hkl]
    have jC2 : (FE.it Pf).length ≤ 1000000 := by simp [FE]; omega
    have wO : (bl (fun p => vd sts p k ++ eTo p k (xa.take i)) n).set p (Pf ++ [(k, w)]) = (bl (fun p => vd sts p k ++ eTo p k (xa.take (i + 1))) n) := bf wa (by rw [vl p, if_pos rfl, ← append_assoc, hPf]; simp) fun q _ hq => by
     rw [vl q, if_neg (by simp only; omega), append_nil]
    refine W32 ?_; refine zR ?_; refine je (1000 + p) [(0, true), (1, true), (2, true), (3, true), (4, true), (5, true), (6, true), (7, true), (8, true), (9, true), (10, true), (11, true), (12, false), (13, false), (14, false), (15, false)] (fun i => !([14, 15] : List Nat).contains i) 16 zh zh rfl zh ?_; refine AE1.rp rfl rfl rfl (fun _ _ h => h) (vC rfl rfl) ?_
    refine AE1.rp rfl rfl rfl (fun _ _ h => h) (xe underlying47 rfl rfl rfl zz zj rfl) ?_; refine AE1.rx rfl rfl rfl (fun _ _ h => h) (wt underlying3 rfl rfl rfl rfl rfl rfl yp) ?_; refine AE1.rp rfl rfl rfl (fun _ _ h => h) (vC rfl rfl) ?_; refine AE1.rp rfl rfl rfl (fun _ _ h => h) (xe underlying47 rfl rfl rfl zz zj rfl) ?_
    refine AE1.rx rfl rfl rfl (fun _ _ h => h) (wt underlying3 rfl rfl rfl rfl rfl rfl yp) ?_; refine AE1.rp rfl rfl rfl (fun _ _ h => h) (vj underlying101 q13 rfl rfl rfl rfl zT9) ?_; refine AE1.rx rfl rfl rfl (fun _ _ h => h) (qb1 (m := 0) underlying102 rfl rfl rfl rfl rfl rfl (fun _ => rfl) rfl zm yp) ?_; refine AE1.rp rfl rfl rfl (fun _ _ h => h) (vC rfl rfl) ?_
    refine AE1.rp rfl rfl rfl (fun _ _ h => h) (xe underlying47 rfl rfl rfl zz zj rfl) ?_; refine AE1.rx rfl rfl rfl (fun _ _ h => h) (wt underlying3 rfl rfl rfl rfl rfl rfl yp) ?_; refine AE1.rp rfl rfl rfl (fun _ _ h => h) (xI (vs := [(0, _), (1, _)]) (zs := [.i 0, .i 0]) jB4 q14 rfl rfl rfl rfl) ?_; refine AE1.go ?_
    refine AE2.sm rfl rfl (q79 (vs := [(0, _)]) (zs := [.i 0, .i 0]) 56 underlying102 q14 rfl rfl zj zj zj rfl rfl rfl rfl (by first | rfl | (simp only [S.clean, S.put, S.newObj, all_cons, zP, reduceLT]; simp [S.forget, V.has, V.hasL, zV, xg, V.cs, xm, xF, xG, xc, x4, zE, zA, zL, xL, xC, nb1, nb2, nb3, nb4, -map_set]; try omega)) rfl rfl) yp ?_
    (refine AE2.st rfl rfl (bR (lits := [_, _, _, _, _, _]) (x' := Pf ++ [(k, w)]) (m := 0) (newrow := [.p (.int .i64 (k : Int)), .p (.int .i64 (w : Int))]) (rb := 23) underlying102 q14 rfl zj zj rfl rfl rfl zm (fun _ => rfl) (by intro x l hl; simp [FE] at hl; first | (obtain ⟨_, _, rfl⟩ := hl; rfl) | (obtain ⟨_, _, _, rfl⟩ := hl; rfl) | (rcases hl with ⟨_, _, rfl⟩ <;> rfl)) rfl rfl rfl rfl rfl rfl rfl rfl (by simp [FE]) rfl rfl (by simp [V.hasL, V.has, nb1, nb2, nb3, nb4, xg, V.cs, xm, xF, xG, xc, x4, zE, zA, -map_set]; try omega) (by first | assumption | (simp [FE]; omega))) ?_)
    refine qP8 ?_; refine qH rfl rfl rfl rfl (vj underlying101 q13 rfl rfl rfl rfl zT9) ?_
    (refine qo rfl rfl rfl (q67 (m := 0) q13 rfl rfl rfl rfl rfl rfl (fun _ => rfl) rfl rfl (by first | assumption | (simp; omega))) ?_)
    refine qs5 ?_; refine ⟨_, ?_, ⟨i + 1, by omega, rfl⟩, ?_⟩
    ·rw [← wO]; exact qd
    exact zM
   have e : (bl (fun p => vd sts p k ++ eTo p k (xa.take i)) n) = (bl (fun p => vd sts p (k + 1)) n) := wh fun q _ => by rw [take_of_length_le zg, vd, qT8]
   rw [e]; refine ve ?_; refine ⟨_, ?_, ⟨k + 1, by omega, rfl⟩, ?_⟩
   ·exact qd
   exact zM
  obtain rfl : k = n := by omega
  obtain ⟨n, rfl⟩ : ∃ n, n = k := ⟨_, rfl⟩
  have hBe : (bl (fun p => vd sts p n) n) = (enE ⟨st, sts⟩) := by rw [hEr]
  have hCe : (bl (fun q => if q < n then stF sts q else 0) n) = (enF ⟨st, sts⟩) := by rw [hFr]; exact wh fun q hq => by rw [if_pos hq]
  rw [hBe, hCe]; refine W75 ?_; refine AW.less (s' := ⟨66, [(1, .ref 1 0), (5, .own 19 1 n false), (6, .own 23 1 n false)], [(1, ⟨24, [.i st, .d (zq sts)], false, 0⟩), (19, ⟨3, (enF ⟨st, sts⟩).map V.n, false, 1⟩), (23, ⟨102, FE.cells 1000 (enE ⟨st, sts⟩), false, 1⟩)] ++ FE.objs 1000 (enE ⟨st, sts⟩), []⟩) qd ?_
  refine j5 (F := FE) (m := 0) (base := 1000) (L := (enE ⟨st, sts⟩)) [_, _, _] 23 rfl rfl rfl rfl (fun _ => rfl) (by intro x l hl; simp [FE] at hl; obtain ⟨_, _, _, rfl⟩ := hl; rfl) ?_ rfl (by simp [V.hasL, V.has]) rfl rfl ?_
  ·intro l hl
   have := (hEl l hl).1; simp [FE]; omega
  refine qk 6 24 ((enE ⟨st, sts⟩).map FE.data) rfl rfl rfl (by rw [length_map, hEr, w4]) zg (vx (sz := 1) (fun _ => rfl) rfl) ?_; refine qk 5 8 ((enF ⟨st, sts⟩).map vp) rfl rfl rfl (by rw [length_map, hFr, w4]) zg (yk rfl) ?_
  refine AW.less (s' := ⟨66, [(1, .ref 1 0), (5, .d (yl (enF ⟨st, sts⟩))), (6, .d (.sl 1 24 ((enE ⟨st, sts⟩).map qa8)))], [(1, ⟨24, [.i st, .d (zq sts)], false, 0⟩)], []⟩) qd ?_
  by_cases he : wL (enD ⟨st, sts⟩) ⟨st, sts⟩ = 0
  ·have vN := qD0 qt4 he
   refine xd ?_; refine qa vN ?_; refine qs4 ?_; exact ⟨[_, _], zU4, .inr ⟨he, rfl⟩, zU0⟩
  have vN := qp4 qt4 he; refine xd ?_; refine qa vN ?_; refine qs4 ?_; exact ⟨[_, _], zU4, .inl ⟨he, rfl⟩, zU0⟩
 have hE : wL (enD m) m = zn m := by unfold wL; rw [if_pos h0]
 have hL : wM (enD m) m = [] := by unfold wM; rw [if_neg (by rw [hE]; exact h0)]
 rw [hE, hL]; obtain ⟨st, sts⟩ := m; obtain ⟨e, he⟩ : ∃ e, zn ⟨st, sts⟩ = e := ⟨_, rfl⟩; rw [he] at h0 ⊢; refine qc 66 fun w0 out => ?_; refine qf2 ?_; refine qa (Fn.eqi (we ⟨st, sts⟩) he) ?_; refine W93 ?_; exact ⟨[_, _], zU4, .inl ⟨h0, rfl⟩, zU0⟩
def FS : Fam St := ⟨47, 4, 32, fun s => [.p (.int .i64 s.fin)], fun s => s.arcs.map arD⟩
theorem qT9 (P : List St) : (FS.cells 1000 P).length = P.length * 2 := Fam.cells_len (fun _ => rfl) P 1000
theorem jP9 (f : Int) (R : List Ar) : FS.row ⟨f, R⟩ = ⟨47, R.flatMap vG, decide (R.length = 0), 4⟩ := by
 have h1 : (R.map arD).flatten.map V.d = R.flatMap vG := by induction R with | nil => rfl | cons x l ih => simp only [map_cons, List.flatten_cons, map_append, ih, flatMap_cons]
 have h2 : (R.map arD).isEmpty = decide (R.length = 0) := by cases R <;> rfl
 simp only [Fam.row, FS, h1, h2]
theorem ju0 (m : zr) (h0 : zn m = 0) : FnO prog 33 [mV m] (fun v H => v = .tup [.agg [.i (x9 m).start, .own 901 2 (x9 m).states.length (decide ((x9 m).states.length = 0))], .i 0] ∧ H = (901, ⟨35, FS.cells 1000 (x9 m).states, decide ((x9 m).states.length = 0), 2⟩) :: FS.objs 1000 (x9 m).states) := by
 refine FnO.mach m 0 rfl fun hb wm => ?_; obtain ⟨hz1, hz2, hz3, hz⟩ := xj h0
 have hT : x9 m = ⟨pl (yV m) m.start, (yV m).map fun q => wq (yV m) (m.states.getD q ⟨0, []⟩)⟩ := by unfold x9; rw [if_pos h0]
 have w5 := qf9 h0; have hBl := qm0 h0; obtain ⟨A, hA⟩ : ∃ A, wE m = A := ⟨_, rfl⟩; obtain ⟨B, hB⟩ : ∃ B, yU m = B := ⟨_, rfl⟩
 have hK : ∀ q a b, A[q]? = some a → B[q]? = some b → gx m q = (a && b) := fun q a b ha hb => qt2 (by rw [hA]; exact ha) (by rw [hB]; exact hb)
 have wZ : yV m = (List.range m.states.length).filter (gx m) := rfl; obtain ⟨K, hKd⟩ : ∃ K, gx m = K := ⟨_, rfl⟩; obtain ⟨kept, hkd⟩ : ∃ kept, yV m = kept := ⟨_, rfl⟩; obtain ⟨T, hTd⟩ : ∃ T, x9 m = T := ⟨_, rfl⟩; rw [hKd] at hK wZ; rw [hkd] at wZ hT; rw [hTd] at hT ⊢; obtain ⟨st, sts⟩ := m; simp only at hz1 hz2 hz3 hz hb wm w5 hBl wZ hT; rw [hA] at w5; rw [hB] at hBl
 obtain ⟨n, hn⟩ : ∃ n, sts.length = n := ⟨_, rfl⟩; rw [hn] at hz1 hz3 hz hb w5 hBl wZ; refine FnO.intro (n := 118) ⟨func33, rfl, rfl, rfl, rfl⟩ zT8 zx fun w0 out => ?_; refine W96 ?_; refine qa (Fn.eqv (qt3 ⟨st, sts⟩) (by rw [hA, h0])) ?_; refine zQ ?_; refine uq ?_; refine qa (Fn.eqv (j53 ⟨st, sts⟩) (by rw [hB, h0])) ?_; refine zQ ?_; refine jN5 ?_; refine xS ?_
 have wl : ∀ q, q < n → pl kept (q : Int) = if K q then (((List.range q).filter K).length : Int) else -1 := fun q hq => by rw [wZ]; exact qH8 hq
 refine qb (fun s' => ∃ (k : Nat) (N : List Int), k ≤ n ∧ N.length = n ∧ (∀ q, q < k → N[q]? = some (pl kept q)) ∧ s' = ⟨118, [(1, .ref 1 0), (2, .ref 2 0), (4, .d (y6 A)), (6, .d (y6 B)), (8, .own 34 1 n false), (9, .i ((List.range k).filter K).length), (37, .i n), (38, .i k)], [(1, ⟨24, [.i st, .d (zq sts)], false, 0⟩), (2, ⟨24, [.i 0, .nil], false, 0⟩), (34, ⟨3, N.map V.i, false, 1⟩)], []⟩) (fun s' => n - s'.nat 38) ⟨_, ?_, 0, List.replicate n 0, by omega, by simp, (fun q h => absurd h zg), rfl⟩ ?_
 ·exact qd
 rintro s' ⟨k, N, hk, hN, hNq, rfl⟩; have hlk := yN K k
 by_cases zk : k < n
 ·obtain ⟨a, ha⟩ := zl w5 zk
  obtain ⟨b, hb'⟩ := zl hBl zk; have hKk := hK k a b ha hb'; have yQ := wl k zk; have hsk := yy K k; have hkN : k < N.length := by omega
  have k60 : k < (N.set k (-1)).length := by simpa using hkN
  have yT : ∀ v : Int, v = pl kept k → ∀ q, q < k + 1 → (N.set k v)[q]? = some (pl kept q) := by
   intro v hv q hq; rw [List.getElem?_set]
   by_cases e : k = q
   ·subst e; simp [hkN, hv]
   rw [if_neg e]; exact hNq q zg
  have qT7 : ∀ v : Int, v = pl kept k → ∀ q, q < k + 1 → ((N.set k (-1)).set k v)[q]? = some (pl kept q) := by
   intro v hv q hq; rw [List.set_set]; exact yT v hv q hq
  cases a with
  | true =>
   cases b with
   | true =>
    simp only [hKk, Bool.and_self, if_true] at hsk yQ; refine W51 ?_; refine jO7 ?_; refine ve ?_; refine ⟨_, ?_, ⟨k + 1, _, by omega, by simpa using hN, qT7 _ yQ.symm, rfl⟩, ?_⟩
    ·rw [hsk]
     simp only [length_append, length_cons, length_nil, zero_add]; exact qd
    exact zM
   | false =>
    simp only [hKk, Bool.and_false, false_eq_true, if_false, append_nil] at hsk yQ; refine W51 ?_; refine gi ?_; refine ⟨_, ?_, ⟨k + 1, _, by omega, by simpa using hN, yT _ yQ.symm, rfl⟩, ?_⟩
    ·rw [hsk]
     exact qd
    exact zM
  | false =>
   simp only [hKk, Bool.false_and, false_eq_true, if_false, append_nil] at hsk yQ; refine W51 ?_; refine gi ?_; refine ⟨_, ?_, ⟨k + 1, _, by omega, by simpa using hN, yT _ yQ.symm, rfl⟩, ?_⟩
   ·rw [hsk]
    exact qd
   exact zM
 obtain rfl : k = n := by omega
 rw [← wZ] at hlk; obtain ⟨c, hc⟩ : ∃ c, kept.length = c := ⟨_, rfl⟩; rw [hc] at hlk; refine W75 ?_; refine qk 8 8 (N.map fun x => [.p (.int .i64 x)]) rfl rfl rfl (by rw [length_map, hN]) zg (yk rfl) ?_; refine AW.less (s' := ⟨118, [(1, .ref 1 0), (2, .ref 2 0), (8, .d (ua N))], [(1, ⟨24, [.i st, .d (zq sts)], false, 0⟩), (2, ⟨24, [.i 0, .nil], false, 0⟩)], []⟩) qd ?_; refine Dv ?_; refine jM6 ?_
 refine zR ?_; refine qn (fun s' => s' = ⟨118, [(1, .ref 1 0), (2, .ref 2 0), (8, .d (ua N)), (11, .ref 11 0)], [(1, ⟨24, [.i st, .d (zq sts)], false, 0⟩), (2, ⟨24, [.i 0, .nil], false, 0⟩), (11, ⟨24, [.i (pl kept st), .nil], false, 0⟩)], []⟩) ?_ ?_
 ·skip
  by_cases hs0 : 0 ≤ st
  ·obtain ⟨p, rfl⟩ : ∃ p : Nat, st = p := ⟨st.toNat, by omega⟩
   have hNp := hNq p zg; refine xS ?_; refine W72 ?_; refine ⟨_, ?_, rfl⟩; exact qd
  have wa : pl kept st = -1 := ji3 _ zg; refine x8 ?_; refine ⟨_, ?_, rfl⟩; rw [wa]; exact qd
 rintro s' rfl; obtain ⟨n, rfl⟩ : ∃ n, n = k := ⟨_, rfl⟩; refine qq 11 1 901 2 35 rfl rfl rfl zT4 ?_; refine xB ?_
 refine qb (fun s' => ∃ (k : Nat) (P : List St), k ≤ n ∧ P = (((List.range k).filter K).map fun q => wq kept (sts.getD q ⟨0, []⟩)) ∧ s' = ⟨118, [(1, .ref 1 0), (2, .ref 2 0), (8, .d (ua N)), (11, .ref 11 0), (72, .d (zq sts)), (73, .i n), (74, .i k)], [(1, ⟨24, [.i st, .d (zq sts)], false, 0⟩), (2, ⟨24, [.i 0, .nil], false, 0⟩), (11, ⟨24, [.i (pl kept st), .own 901 2 P.length (decide (P.length = 0))], false, 0⟩), (901, ⟨35, FS.cells 1000 P, decide (P.length = 0), 2⟩)] ++ FS.objs 1000 P, []⟩) (fun s' => n - s'.nat 74) ⟨_, ?_, 0, [], by omega, rfl, rfl⟩ ?_
 ·exact qd
 rintro s' ⟨k, P, hk, hP, rfl⟩; have hlk := yN K k; have wy : P.length ≤ k := by rw [hP, length_map]; exact hlk
 by_cases zk : k < n
 ·obtain ⟨x, hx⟩ := zl hn zk
  have hNk := hNq k zk; have yQ := wl k zk; have hsk := yy K k
  by_cases hKk : K k = true
  ·rw [if_pos hKk] at yQ hsk
   have gA : ¬ pl kept k < 0 := by rw [yQ]; omega
   obtain ⟨la, xr⟩ : ∃ n, x.arcs.length = n := ⟨_, rfl⟩; have yO := le_trans (yq sts x (mem_of_getElem? hx)) hz2; rw [xr] at yO; have hxd : sts.getD k ⟨0, []⟩ = x := by simp [getD_eq_getElem?_getD, hx]
   have hPs : P ++ [⟨x.fin, x.arcs.filterMap (vq kept)⟩] = (((List.range (k + 1)).filter K).map fun q => wq kept (sts.getD q ⟨0, []⟩)) := by
    rw [hsk, map_append, ← hP, map_cons, map_nil, hxd]; rfl
   have xA := qT9 P; refine W73 ?_; refine jN8 ?_; refine q9 rfl (zp (l := [.i 0, .nil]) 14 xD rfl (by first | rfl | (simp only [S.clean, S.put, S.newObj, all_cons, zP, reduceLT]; simp [S.forget, V.has, V.hasL, zV, xg, V.cs, xm, xF, xG, xc, x4, zE, zA, zL, xL, xC, nb1, nb2, nb3, nb4, -map_set]; try omega)) rfl rfl) ?_; refine q34 ?_
   refine qq 14 1 102 4 47 rfl rfl rfl (by simp [S.clean, V.has, V.hasL, V.cs, xg, zP, zL]) ?_; refine x8 ?_
   refine qb (fun s' => ∃ i : Nat, i ≤ la ∧ s' = ⟨118, [(1, .ref 1 0), (2, .ref 2 0), (8, .d (ua N)), (11, .ref 11 0), (14, .ref 14 0), (72, .d (zq sts)), (73, .i n), (74, .i k), (88, .d (zU x.arcs)), (89, .i la), (90, .i i)], [(1, ⟨24, [.i st, .d (zq sts)], false, 0⟩), (2, ⟨24, [.i 0, .nil], false, 0⟩), (11, ⟨24, [.i (pl kept st), .own 901 2 P.length (decide (P.length = 0))], false, 0⟩), (901, ⟨35, FS.cells 1000 P, decide (P.length = 0), 2⟩), (14, ⟨35, [.i x.fin, .own 102 4 ((x.arcs.take i).filterMap (vq kept)).length (decide (((x.arcs.take i).filterMap (vq kept)).length = 0))], false, 0⟩), (102, ⟨47, ((x.arcs.take i).filterMap (vq kept)).flatMap vG, decide (((x.arcs.take i).filterMap (vq kept)).length = 0), 4⟩)] ++ FS.objs 1000 P, []⟩) (fun s' => la - s'.nat 90) ⟨_, ?_, 0, by omega, rfl⟩ ?_
   ·exact qd
   rintro s' ⟨i, hi, rfl⟩
   have hfm : ((x.arcs.take i).filterMap (vq kept)).length ≤ la := by
    have := List.length_filterMap_le (vq kept) (x.arcs.take i); rw [length_take] at this; omega
   have qg0 : (((x.arcs.take i).filterMap (vq kept)).flatMap vG).length = ((x.arcs.take i).filterMap (vq kept)).length * 4 := vh (sz := 4) (fun _ => rfl)
   by_cases vr : i < la
   ·obtain ⟨y, hy⟩ := zl xr vr
    have hyt := (hz x (mem_of_getElem? hx)).2 y (mem_of_getElem? hy); have uh := bO (vq kept) hy; obtain ⟨yi, yo, yw, yt⟩ := y; simp only [xl, decide_eq_true_eq] at hyt; obtain ⟨p, rfl⟩ : ∃ p : Nat, yt = p := ⟨yt.toNat, by omega⟩; have hNp := hNq p zg
    by_cases hp : 0 ≤ pl kept p
    ·have hty : vq kept ⟨yi, yo, yw, p⟩ = some ⟨yi, yo, yw, pl kept p⟩ := by unfold vq; rw [if_pos hp]
     rw [hty, Option.toList] at uh; refine W69 ?_; refine xX ?_; refine q32 ?_; refine xu ?_
     refine q9 rfl (zN (vs := [(0, _)]) (zs := [.i 0, .i 0, .i 0, .i 0]) 106 underlying33 zO rfl rfl zj zj zj rfl rfl rfl rfl (by first | rfl | (simp only [S.clean, S.put, S.newObj, all_cons, zP, reduceLT]; simp [S.forget, V.has, V.hasL, zV, xg, V.cs, xm, xF, xG, xc, x4, zE, zA, zL, xL, xC, nb1, nb2, nb3, nb4, -map_set]; try omega)) rfl rfl) ?_
     refine qf rfl (xK underlying33 zO rfl zj rfl rfl rfl rfl rfl rfl zT5 (by first | rfl | (simp only [S.clean, S.put, S.newObj, all_cons, zP, reduceLT]; simp [S.forget, V.has, V.hasL, zV, xg, V.cs, xm, xF, xG, xc, x4, zE, zA, zL, xL, xC, nb1, nb2, nb3, nb4, -map_set]; try omega)) rfl rfl rfl rfl rfl rfl rfl zj zg zg rfl) ?_; refine jb8 ?_; refine W34 ?_; refine zC ?_
     refine ⟨_, ?_, ⟨i + 1, by omega, rfl⟩, ?_⟩
     ·rw [uh]
      simp only [flatMap_append, flatMap_cons, flatMap_nil, append_nil, length_append, length_cons, length_nil, zero_add]; exact qd
     exact zM
    have hty : vq kept ⟨yi, yo, yw, p⟩ = none := by unfold vq; rw [if_neg hp]
    rw [hty, Option.toList, append_nil] at uh; refine W69 ?_; refine xX ?_; refine W79 ?_; refine ⟨_, ?_, ⟨i + 1, by omega, rfl⟩, ?_⟩
    ·rw [uh]
     exact qd
    exact zM
   have wR : x.arcs.take i = x.arcs := take_of_length_le zg; rw [wR] at hfm qg0 ⊢; obtain ⟨R, hR⟩ : ∃ R, x.arcs.filterMap (vq kept) = R := ⟨_, rfl⟩; rw [hR] at hfm qg0 hPs ⊢; have vi := jP9 x.fin R
   have hRe : (FS.it ⟨x.fin, R⟩).isEmpty = decide (R.length = 0) := by cases R <;> rfl
   have hRl : (FS.it ⟨x.fin, R⟩).length = R.length := by simp [FS]
   refine ve ?_; refine q9 rfl (zN (vs := [(0, _)]) (zs := [.i 0, .nil]) 113 underlying22 xD rfl rfl zj zj zj rfl rfl rfl rfl (by first | rfl | (simp only [S.clean, S.put, S.newObj, all_cons, zP, reduceLT]; simp [S.forget, V.has, V.hasL, zV, xg, V.cs, xm, xF, xG, xc, x4, zE, zA, zL, xL, xC, nb1, nb2, nb3, nb4, -map_set]; try omega)) rfl rfl) ?_
   refine qf rfl (xK underlying22 xD rfl zj rfl rfl rfl rfl rfl rfl zT5 (by first | rfl | (simp only [S.clean, S.put, S.newObj, all_cons, zP, reduceLT]; simp [S.forget, V.has, V.hasL, zV, xg, V.cs, xm, xF, xG, xc, x4, zE, zA, zL, xL, xC, nb1, nb2, nb3, nb4, -map_set]; try omega)) rfl rfl rfl rfl rfl rfl rfl zj zg zg rfl) ?_; refine jb8 ?_; refine W39 ?_; refine Dv ?_
   refine AW.less (s' := ⟨118, [(1, .ref 1 0), (2, .ref 2 0), (8, .d (ua N)), (11, .ref 11 0), (72, .d (zq sts)), (73, .i n), (74, .i k)], [(1, ⟨24, [.i st, .d (zq sts)], false, 0⟩), (2, ⟨24, [.i 0, .nil], false, 0⟩), (11, ⟨24, [.i (pl kept st), .own 901 2 (P.length + 1) false], false, 0⟩), (901, ⟨35, FS.cells 1000 P ++ [.i x.fin, .own 102 4 R.length (decide (R.length = 0))], false, 2⟩), (102, ⟨47, R.flatMap vG, decide (R.length = 0), 4⟩)] ++ FS.objs 1000 P, []⟩) qd ?_
   refine jd (F := FS) [_, _, _, _, _] 901 102 ⟨x.fin, R⟩ rfl rfl rfl (by rw [vi]; rfl) (by rw [hRe, hRl]; rfl) zj rfl (by simp [V.hasL, V.has]) rfl rfl (by intro y hy _ r hr; simp only [mem_cons, not_mem_nil, or_false] at hy; rcases hy with rfl | rfl | rfl | rfl | rfl <;> first | (simp [V.hasL, V.has]; omega) | simp_all [V.hasL, V.has]) rfl rfl ?_
   refine zW ?_; refine ⟨_, ?_, ⟨k + 1, _, by omega, hPs, rfl⟩, ?_⟩
   ·simp only [length_append, length_cons, length_nil, zero_add]
    exact qd
   exact zM
  rw [if_neg hKk] at yQ hsk; rw [append_nil] at hsk; have y7 : pl kept k < 0 := by rw [yQ]; omega
  refine W73 ?_; refine uy ?_; refine ⟨_, ?_, ⟨k + 1, P, by omega, by rw [hsk]; exact hP, rfl⟩, ?_⟩
  ·exact qd
  exact zM
 obtain rfl : k = n := by omega
 rw [← wZ] at hP; have hTs : T.states = P := by rw [hT, hP]
 have hTt : T.start = pl kept st := by rw [hT]
 rw [hTs, hTt]; refine wn ?_; exact ⟨[_, _], (901, ⟨35, FS.cells 1000 P, decide (P.length = 0), 2⟩) :: FS.objs 1000 P, zU1, ⟨rfl, by repeat (first | exact trivial | refine ⟨rfl, ?_⟩ | exact LH.fam | refine LH.skip zj ?_)⟩, ⟨rfl, rfl⟩, by simp [zZ, V.has, V.hasL], jd0 rfl⟩
theorem ju1 (m : zr) (h0 : zn m = 0) (he : wL (enD m) m = 0) : FnO prog 34 [mV m] (fun v H => v = .tup [.own 21 1 m.states.length false, .i 0] ∧ H = [(21, ⟨3, (wM (enD m) m).map V.n, false, 1⟩)]) := by
  obtain ⟨xZ, vw, xR, hz⟩ := xj h0; have xE : (enD m).all okD = true := by grind [wL, enD, okD]
  have hLe : wM (enD m) m = (enD m).map vL := by unfold wM; rw [if_pos he]
  rw [hLe]; obtain ⟨st, sts⟩ := m; simp only at xZ vw xR hz
  have ui : ∀ x ∈ sts, x.arcs.length ≤ 400 := fun x hx => le_trans (yq sts x hx) vw
  have hFr : enF ⟨st, sts⟩ = bl (fun q => stF sts q) sts.length := rfl
  have hEr : enE ⟨st, sts⟩ = bl (fun p => vd sts p sts.length) sts.length := rfl
  have hEl : ∀ l ∈ enE ⟨st, sts⟩, l.length ≤ 24000 ∧ ∀ p w, (p, w) ∈ l → p < sts.length ∧ w ≤ 1000000000 := by
   intro l hl; obtain ⟨p0, hq⟩ := List.getElem?_of_mem hl; obtain ⟨hqn, rfl⟩ := yx hq; refine ⟨by have := q19 ui p0 sts.length; (try simp only); omega, fun q w hpw => ?_⟩; obtain ⟨q', a, h1, h2, _, h4⟩ := (q20 _).1 hpw; have h1 : q' < sts.length := h1; simp only [Prod.mk.injEq] at h4; have hx : sts[q']? = some sts[q'] := List.getElem?_eq_getElem h1; rw [wo hx] at h2
   have h3 := (hz _ (List.getElem_mem h1)).2 a h2; simp only [xl, decide_eq_true_eq] at h3; omega
  have hFx : ∀ x ∈ enF ⟨st, sts⟩, x ≤ 1000000001 := by
   intro x hx; obtain ⟨q, hq⟩ := List.getElem?_of_mem hx; obtain ⟨hqn, rfl⟩ := yx hq; have hx : sts[q]? = some sts[q] := List.getElem?_eq_getElem hqn; have h1 := (hz _ (List.getElem_mem hqn)).1; simp [vy] at h1; have h2 := qc5 hx; unfold stF at h2
   (try simp only)
   omega
  have qt4 := jE8 (enF ⟨st, sts⟩) (enE ⟨st, sts⟩) sts.length (w4 _ _) (w4 _ _) xZ hFx hEl xE; obtain ⟨D, hDd⟩ : ∃ D, (enD ⟨st, sts⟩).map vL = D := ⟨_, rfl⟩
  have qt4 : FnO prog 73 [.d (yl (enF ⟨st, sts⟩)), .d (.sl 1 24 ((enE ⟨st, sts⟩).map qa8))] (fun v H => v = .tup [.own 21 1 sts.length false, .i 0] ∧ H = [(21, ⟨3, D.map V.n, false, 1⟩)]) := by rw [← hDd]; exact qt4
  rw [hDd]; obtain ⟨n, hn⟩ : ∃ n, sts.length = n := ⟨_, rfl⟩; rw [hn] at xZ xR hz hFr hEr hEl qt4; refine FnO.intro (n := 66) ⟨func34, rfl, rfl, rfl, rfl⟩ zT8 zx fun w0 out => ?_; refine qf2 ?_; refine qa (Fn.eqi (we ⟨st, sts⟩) h0) ?_; refine qe9 ?_; refine q9 rfl (vg 19 V.i (0) underlying42 zz rfl rfl rfl rfl rfl zg zj rfl rfl) ?_; refine W70 ?_; refine q34 ?_
  refine jc FE 1000 23 (List.replicate n []) rfl rfl (by rw [qb0]; simp [FE]) (by intro x hx; rw [List.eq_of_mem_replicate hx]; rfl) rfl ?_
  have hz0 : (List.replicate n (0 : Int)).map V.i = (bl (fun q => if q < 0 then stF sts q else 0) n).map V.n := by rw [show (bl (fun q => if q < 0 then stF sts q else 0) n) = List.replicate n 0 by rw [ql3]; exact wh fun q _ => by simp]; simp
  have hb0 : (List.replicate n ([] : List (Nat × Nat))) = (bl (fun p => vd sts p 0) n) := by rw [ql3]; rfl
  rw [hz0, hb0]; refine x8 ?_
  refine qb (fun s' => ∃ k : Nat, k ≤ n ∧ s' = ⟨66, [(1, .ref 1 0), (5, .own 19 1 n false), (6, .own 23 1 n false), (25, .d (zq sts)), (26, .i n), (27, .i k)], [(1, ⟨24, [.i st, .d (zq sts)], false, 0⟩), (19, ⟨3, (bl (fun q => if q < k then stF sts q else 0) n).map V.n, false, 1⟩), (23, ⟨102, FE.cells 1000 (bl (fun p => vd sts p k) n), false, 1⟩)] ++ FE.objs 1000 (bl (fun p => vd sts p k) n), []⟩) (fun s' => n - s'.nat 27) ⟨_, ?_, 0, by omega, rfl⟩ ?_
  ·exact qd
  rintro s' ⟨k, hk, rfl⟩
  by_cases zk : k < n
  ·obtain ⟨x, hx⟩ := zl hn zk
   obtain ⟨la, xr⟩ : ∃ n, x.arcs.length = n := ⟨_, rfl⟩; have yO := ui x (mem_of_getElem? hx); rw [xr] at yO; have hxf := (hz x (mem_of_getElem? hx)).1; have hza := (hz x (mem_of_getElem? hx)).2; have hkf := qc5 hx; have qT8 := wo hx; obtain ⟨xf, xa⟩ := x; simp only [vy, decide_eq_true_eq] at hxf xr hza qT8; obtain ⟨f, rfl⟩ : ∃ f : Nat, xf = f := ⟨xf.toNat, by omega⟩
   simp only [Int.toNat_natCast] at hkf
   have hkC : k < (bl (fun q => if q < k then stF sts q else 0) n).length := by rw [w4]; exact zk
   have hCn : (bl (fun q => if q < k then stF sts q else 0) n).set k f = (bl (fun q => if q < (k + 1) then stF sts q else 0) n) := bf zk (by rw [if_pos zg, hkf]) fun q _ hq => by grind
   refine W36 ?_; refine xX ?_; refine qf rfl (zX (v := f) zz rfl rfl rfl rfl rfl rfl rfl rfl zT9) ?_; refine xB ?_
   refine qb (fun s' => ∃ i : Nat, i ≤ la ∧ s' = ⟨66, [(1, .ref 1 0), (5, .own 19 1 n false), (6, .own 23 1 n false), (7, .i k), (25, .d (zq sts)), (26, .i n), (27, .i k), (38, .d (zU xa)), (39, .i la), (40, .i i)], [(1, ⟨24, [.i st, .d (zq sts)], false, 0⟩), (19, ⟨3, (bl (fun q => if q < (k + 1) then stF sts q else 0) n).map V.n, false, 1⟩), (23, ⟨102, FE.cells 1000 (bl (fun p => vd sts p k ++ eTo p k (xa.take i)) n), false, 1⟩)] ++ FE.objs 1000 (bl (fun p => vd sts p k ++ eTo p k (xa.take i)) n), []⟩) (fun s' => la - s'.nat 40) ⟨_, ?_, 0, by omega, rfl⟩ ?_
   ·have e : (bl (fun p => vd sts p k ++ eTo p k (xa.take 0)) n) = (bl (fun p => vd sts p k) n) := wh fun q _ => by simp [eTo]
    rw [e, ← hCn]; exact qd
   rintro s' ⟨i, hi, rfl⟩
   by_cases vr : i < la
   ·obtain ⟨y, hy⟩ := zl xr vr
    have hyt := hza y (mem_of_getElem? hy)
    have vl := fun p => qS5 p k hy
    obtain ⟨yi, yo, yw, yt⟩ := y; simp only [xl, decide_eq_true_eq] at hyt; obtain ⟨p, rfl⟩ : ∃ p : Nat, yt = p := ⟨yt.toNat, by omega⟩; obtain ⟨w, rfl⟩ : ∃ w : Nat, yw = w := ⟨yw.toNat, by omega⟩; have wa : p < n := by omega
    obtain ⟨Pf, hPf⟩ : ∃ P, vd sts p k ++ eTo p k (xa.take i) = P := ⟨_, rfl⟩
    have wy : Pf.length ≤ 24400 := by
     have h1 := q19 ui p k; have h2 := qC9 p k (xa.take i); rw [length_take] at h2; rw [← hPf, length_append]; omega
    have hp0 : (bl (fun p => vd sts p k ++ eTo p k (xa.take i)) n)[p]? = some Pf := by rw [w8 wa, ← hPf]
    have hkl := (List.getElem?_eq_some_iff.1 hp0).1; have wJ : ((bl (fun p => vd sts p k ++ eTo p k (xa.take i)) n).set p (Pf ++ [(k, w)]))[p]? = some (Pf ++ [(k, w)]) := by rw [List.getElem?_set_self hkl]
    have jC2 : (FE.it Pf).length ≤ 1000000 := by simp [FE]; omega
    have wO : (bl (fun p => vd sts p k ++ eTo p k (xa.take i)) n).set p (Pf ++ [(k, w)]) = (bl (fun p => vd sts p k ++ eTo p k (xa.take (i + 1))) n) := bf wa (by rw [vl p, if_pos rfl, ← append_assoc, hPf]; simp) fun q _ hq => by
     rw [vl q, if_neg (by simp only; omega), append_nil]
    refine W32 ?_; refine zR ?_; refine je (1000 + p) [(0, true), (1, true), (2, true), (3, true), (4, true), (5, true), (6, true), (7, true), (8, true), (9, true), (10, true), (11, true), (12, false), (13, false), (14, false), (15, false)] (fun i => !([14, 15] : List Nat).contains i) 16 zh zh rfl zh ?_; refine AE1.rp rfl rfl rfl (fun _ _ h => h) (vC rfl rfl) ?_
    refine AE1.rp rfl rfl rfl (fun _ _ h => h) (xe underlying47 rfl rfl rfl zz zj rfl) ?_; refine AE1.rx rfl rfl rfl (fun _ _ h => h) (wt underlying3 rfl rfl rfl rfl rfl rfl yp) ?_; refine AE1.rp rfl rfl rfl (fun _ _ h => h) (vC rfl rfl) ?_; refine AE1.rp rfl rfl rfl (fun _ _ h => h) (xe underlying47 rfl rfl rfl zz zj rfl) ?_
    refine AE1.rx rfl rfl rfl (fun _ _ h => h) (wt underlying3 rfl rfl rfl rfl rfl rfl yp) ?_; refine AE1.rp rfl rfl rfl (fun _ _ h => h) (vj underlying101 q13 rfl rfl rfl rfl zT9) ?_; refine AE1.rx rfl rfl rfl (fun _ _ h => h) (qb1 (m := 0) underlying102 rfl rfl rfl rfl rfl rfl (fun _ => rfl) rfl zm yp) ?_; refine AE1.rp rfl rfl rfl (fun _ _ h => h) (vC rfl rfl) ?_
    refine AE1.rp rfl rfl rfl (fun _ _ h => h) (xe underlying47 rfl rfl rfl zz zj rfl) ?_; refine AE1.rx rfl rfl rfl (fun _ _ h => h) (wt underlying3 rfl rfl rfl rfl rfl rfl yp) ?_; refine AE1.rp rfl rfl rfl (fun _ _ h => h) (xI (vs := [(0, _), (1, _)]) (zs := [.i 0, .i 0]) jB4 q14 rfl rfl rfl rfl) ?_; refine AE1.go ?_
    refine AE2.sm rfl rfl (q79 (vs := [(0, _)]) (zs := [.i 0, .i 0]) 56 underlying102 q14 rfl rfl zj zj zj rfl rfl rfl rfl (by first | rfl | (simp only [S.clean, S.put, S.newObj, all_cons, zP, reduceLT]; simp [S.forget, V.has, V.hasL, zV, xg, V.cs, xm, xF, xG, xc, x4, zE, zA, zL, xL, xC, nb1, nb2, nb3, nb4, -map_set]; try omega)) rfl rfl) yp ?_
    (refine AE2.st rfl rfl (bR (lits := [_, _, _, _, _, _]) (x' := Pf ++ [(k, w)]) (m := 0) (newrow := [.p (.int .i64 (k : Int)), .p (.int .i64 (w : Int))]) (rb := 23) underlying102 q14 rfl zj zj rfl rfl rfl zm (fun _ => rfl) (by intro x l hl; simp [FE] at hl; first | (obtain ⟨_, _, rfl⟩ := hl; rfl) | (obtain ⟨_, _, _, rfl⟩ := hl; rfl) | (rcases hl with ⟨_, _, rfl⟩ <;> rfl)) rfl rfl rfl rfl rfl rfl rfl rfl (by simp [FE]) rfl rfl (by simp [V.hasL, V.has, nb1, nb2, nb3, nb4, xg, V.cs, xm, xF, xG, xc, x4, zE, zA, -map_set]; try omega) (by first | assumption | (simp [FE]; omega))) ?_)
    refine qP8 ?_; refine qH rfl rfl rfl rfl (vj underlying101 q13 rfl rfl rfl rfl zT9) ?_
    (refine qo rfl rfl rfl (q67 (m := 0) q13 rfl rfl rfl rfl rfl rfl (fun _ => rfl) rfl rfl (by first | assumption | (simp; omega))) ?_)
    refine qs5 ?_; refine ⟨_, ?_, ⟨i + 1, by omega, rfl⟩, ?_⟩
    ·rw [← wO]; exact qd
    exact zM
   have e : (bl (fun p => vd sts p k ++ eTo p k (xa.take i)) n) = (bl (fun p => vd sts p (k + 1)) n) := wh fun q _ => by rw [take_of_length_le zg, vd, qT8]
   rw [e]; refine ve ?_; refine ⟨_, ?_, ⟨k + 1, by omega, rfl⟩, ?_⟩
   ·exact qd
   exact zM
  obtain rfl : k = n := by omega
  obtain ⟨n, rfl⟩ : ∃ n, n = k := ⟨_, rfl⟩
  have hBe : (bl (fun p => vd sts p n) n) = (enE ⟨st, sts⟩) := by rw [hEr]
  have hCe : (bl (fun q => if q < n then stF sts q else 0) n) = (enF ⟨st, sts⟩) := by rw [hFr]; exact wh fun q hq => by rw [if_pos hq]
  rw [hBe, hCe]; refine W75 ?_; refine AW.less (s' := ⟨66, [(1, .ref 1 0), (5, .own 19 1 n false), (6, .own 23 1 n false)], [(1, ⟨24, [.i st, .d (zq sts)], false, 0⟩), (19, ⟨3, (enF ⟨st, sts⟩).map V.n, false, 1⟩), (23, ⟨102, FE.cells 1000 (enE ⟨st, sts⟩), false, 1⟩)] ++ FE.objs 1000 (enE ⟨st, sts⟩), []⟩) qd ?_
  refine j5 (F := FE) (m := 0) (base := 1000) (L := (enE ⟨st, sts⟩)) [_, _, _] 23 rfl rfl rfl rfl (fun _ => rfl) (by intro x l hl; simp [FE] at hl; obtain ⟨_, _, _, rfl⟩ := hl; rfl) ?_ rfl (by simp [V.hasL, V.has]) rfl rfl ?_
  ·intro l hl
   have := (hEl l hl).1; simp [FE]; omega
  refine qk 6 24 ((enE ⟨st, sts⟩).map FE.data) rfl rfl rfl (by rw [length_map, hEr, w4]) zg (vx (sz := 1) (fun _ => rfl) rfl) ?_; refine qk 5 8 ((enF ⟨st, sts⟩).map vp) rfl rfl rfl (by rw [length_map, hFr, w4]) zg (yk rfl) ?_
  refine AW.less (s' := ⟨66, [(1, .ref 1 0), (5, .d (yl (enF ⟨st, sts⟩))), (6, .d (.sl 1 24 ((enE ⟨st, sts⟩).map qa8)))], [(1, ⟨24, [.i st, .d (zq sts)], false, 0⟩)], []⟩) qd ?_; refine xd ?_; refine j4 (post := ?pc190) rfl (q65 (args := [_, _]) ?hc190 ⟨func73, rfl, rfl, rfl, rfl⟩ rfl rfl rfl rfl ?fc190) ?_
  case hc190 => exact qt4
  case fc190 => exact (by rintro _ _ ⟨rfl, rfl⟩; first | rfl | simp [S.clean, S.put, S.newObj, S.forget, V.has, V.hasL, zV, xg, V.cs, xm, xF, xG, xc, x4, zE, zA])
  rintro _ _ ⟨rfl, rfl⟩; refine qs4 ?_
  exact ⟨[_, _], [(21, ⟨3, D.map V.n, false, 1⟩)], ⟨rfl, rfl, trivial⟩, ⟨rfl, trivial⟩, ⟨by rw [hn]; rfl, rfl⟩, by simp [zZ, V.has, V.hasL], fun r row k h1 h2 => by
     simp only [fnd, beq_iff_eq] at h1
     split at h1
     ·cases h1; rw [xc] at h2; cases h2
     cases h1⟩
end Go.Proofs.YthiknkcigcglkaaGreatDoor
