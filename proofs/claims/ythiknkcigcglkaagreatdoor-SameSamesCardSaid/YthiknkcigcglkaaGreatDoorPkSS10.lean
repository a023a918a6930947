/- Part 10 of what the law SameSames rests on. -/
import Derived.Test.YthiknkcigcglkaaGreatDoorPkSS8
namespace Go.Proofs.YthiknkcigcglkaaGreatDoor
open Go.RowKit
open Go.Proofs.Tryz
open List (all_eq_true append_assoc cons_append length_append length_cons length_nil map_append map_cons map_nil mem_append mem_map mem_of_getElem? nil_append)
open Nat (le_refl zero_add)
open Option (getD_some map_some)
set_option linter.unusedSimpArgs false
set_option linter.unusedVariables false
set_option maxRecDepth 100000
set_option maxHeartbeats 8000000
theorem j49 (F : List Nat) (E : List (List (Nat × Nat))) (n : Nat) (hF : F.length = n) (hE : E.length = n) (jc9 : n ≤ 60) (hFx : ∀ x ∈ F, x ≤ 1000000001) (hEl : ∀ l ∈ E, l.length ≤ 24000 ∧ ∀ p w, (p, w) ∈ l → p < n ∧ w ≤ 1000000000) :
  FnO prog 73 [.d (yl F), .d (.sl 1 24 (E.map qa8))] (fun v H => ((ws (vz F) (vn E) n).all okD = true ∧ v = .tup [.own 21 1 n false, .i 0] ∧ H = [(21, ⟨3, ((ws (vz F) (vn E) n).map vL).map V.n, false, 1⟩)]) ∨ ((ws (vz F) (vn E) n).all okD = false ∧ v = .tup [.nil, .i 4] ∧ H = [])) := by
 have gI := yz; have w3 : ∀ q p w, vn E q p w → q < n := fun q p w ⟨l, h, _⟩ => by rw [← hE]; exact (List.getElem?_eq_some_iff.1 h).1
 obtain ⟨D, hD⟩ : ∃ D, ws (vz F) (vn E) n = D := ⟨_, rfl⟩; have hDl : D.length = n := by rw [← hD]; simp [ws]
 have hDb : ∀ x ∈ D, x ≤ big := by
  intro x hx; rw [← hD] at hx; simp only [ws, mem_map] at hx; obtain ⟨q, _, rfl⟩ := hx; exact (bP q).1
 rw [hD]; refine FnO.intro (n := 117) ⟨func73, rfl, rfl, rfl, rfl⟩ zT8 zx fun w0 out => ?_; refine x8 ?_; refine q9 rfl (vg 21 V.i (0) underlying42 zz rfl rfl rfl rfl rfl zg zj rfl rfl) ?_; refine xX ?_
 refine qb (fun s' => ∃ (k : Nat) (C : List Nat), k ≤ n ∧ C.length = n ∧ (∀ q x : Nat, q < k → F[q]? = some x → C[q]? = some (iC x)) ∧ s' = ⟨117, [(0, .d (yl F)), (1, .d (.sl 1 24 (E.map qa8))), (6, .own 21 1 n false), (22, .d (yl F)), (23, .i n), (24, .i k)], [(21, ⟨3, C.map V.n, false, 1⟩)], []⟩) (fun s' => n - s'.nat 24) ⟨_, ?_, 0, List.replicate n 0, by omega, by simp, (fun q x h => absurd h zg), rfl⟩ ?_
 ·have hz : (List.replicate n (0 : Int)).map V.i = (List.replicate n 0).map V.n := by simp
  rw [hz]; exact q8
 rintro s' ⟨k, C, hk, hCl, hC, rfl⟩
 by_cases zk : k < n
 ·obtain ⟨x, hx⟩ := zl hF zk
  have hkC : k < C.length := by omega
  have kb0 : k < (C.set k big).length := by simpa using hkC
  have wO : ∀ C' : List Nat, C' = C.set k (iC x) → ∀ q z : Nat, q < k + 1 → F[q]? = some z → C'[q]? = some (iC z) := by
   intro C' hC' q z hq hz; subst hC'; rw [List.getElem?_set]
   by_cases e : k = q
   ·subst e
    rw [hx] at hz; simp only [Option.some.injEq] at hz; subst hz; simp [hkC]
   rw [if_neg e]; exact hC q z zg hz
  by_cases hi : x = 1000000001
  ·skip
   refine gi ?_; refine qf rfl (zX (v := big) zz rfl rfl rfl rfl rfl rfl rfl rfl zT9) ?_; refine xu ?_; refine ⟨_, ?_, ⟨k + 1, C.set k big, by omega, by simpa using hCl, wO _ (by simp [iC, hi]), rfl⟩, ?_⟩
   ·exact q8
   exact zM
  skip; refine gi ?_; refine qf rfl (zX (v := big) zz rfl rfl rfl rfl rfl rfl rfl rfl zT9) ?_; refine xu ?_; refine W98 ?_; refine ⟨_, ?_, ⟨k + 1, (C.set k big).set k x, by omega, by simpa using hCl, wO _ (by simp [iC, hi]), rfl⟩, ?_⟩
  ·exact q8
  exact zM
 have hCF : ∀ q x : Nat, F[q]? = some x → C[q]? = some (iC x) := fun q x h => hC q x (by have := (List.getElem?_eq_some_iff.1 h).1; omega) h
 have hFC : ∀ q y : Nat, C[q]? = some y → ∃ x, F[q]? = some x ∧ y = iC x := by
  intro q y h; have hq : q < n := by have := (List.getElem?_eq_some_iff.1 h).1; omega
  obtain ⟨x, hx⟩ := zl hF hq; refine ⟨x, hx, ?_⟩; have := hCF q x hx; rw [h] at this
  simpa using this
 have jt2 : Snd (vz F) (vn E) n C := by
  refine ⟨hCl, fun q y h => ?_, fun q y h hb => ?_, fun q y d h hi => ?_⟩
  all_goals
   obtain ⟨x, hx, rfl⟩ := hFC q y h; have hxl := hFx x (mem_of_getElem? hx)
  ·unfold iC; split <;> omega
  ·unfold iC at hb ⊢
   split
   ·rename_i e; rw [if_pos e] at hb; omega
   rename_i e; exact .init q x ⟨hx, e⟩
  obtain ⟨h1, h2⟩ := hi; rw [hx] at h1; simp only [Option.some.injEq] at h1; subst h1; unfold iC; rw [if_neg h2]; exact le_refl _
 clear hC hCF hFC; refine x8 ?_; refine q9 rfl (zp (l := [.nil]) 9 u9 rfl zT0 rfl rfl) ?_; refine Dv ?_; apply qg; refine qq 9 0 100 1 3 rfl rfl rfl zT4 ?_; refine xd ?_; refine q9 rfl (vg 41 V.b (false) underlying51 qa1 rfl rfl rfl rfl rfl zg zj zT0 rfl) ?_; refine q9 rfl (zp (l := [.nil]) 10 q42 rfl zT0 rfl rfl) ?_; refine qf rfl (vA q42 rfl rfl rfl rfl rfl rfl rfl zT7 rfl) ?_; refine zR ?_
 refine qe rfl rfl (un (vs := [_, _]) rfl rfl) ?_; refine xX ?_
 refine qb (fun s' => ∃ (k : Nat) (W : List Bool) (T : List Nat), k ≤ n ∧ W.length = n ∧ (∀ x, W[x]? = some true ↔ x ∈ T) ∧ T.Nodup ∧ W.count true = T.length ∧ (∀ x ∈ T, x < k ∧ ∃ c : Nat, C[x]? = some c ∧ c < big) ∧ (∀ x c : Nat, x < k → C[x]? = some c → c < big → x ∈ T) ∧
  s' = ⟨117, [(1, .d (.sl 1 24 (E.map qa8))), (6, .own 21 1 n false), (9, .ref 9 0), (10, .ref 10 0), (11, .fn 106 [.ref 10 0, .ref 9 0]), (44, .i n), (45, .i k)], [(21, ⟨3, C.map V.n, false, 1⟩), (9, ⟨42, [.own 100 1 T.length (decide (T.length = 0))], false, 0⟩), (100, ⟨3, T.map V.n, decide (T.length = 0), 1⟩), (10, ⟨51, [.own 41 1 n false], false, 0⟩), (41, ⟨4, W.map V.b, false, 1⟩)], []⟩) (fun s' => n - s'.nat 45) ⟨_, ?_, 0, List.replicate n false, [], by omega, by simp, by simp [List.getElem?_replicate], by simp, by simp [List.count_replicate], by simp, (fun x c h => absurd h zg), rfl⟩ ?_
 ·exact q8
 clear zk hk k; rintro s' ⟨k, W, T, hk, hW, hWT, wC, bS, hT1, hT2, rfl⟩; have xM : W.count true ≤ W.length := List.count_le_length
 by_cases zk : k < n
 ·obtain ⟨c, hc⟩ := zl hCl zk
  have hcb := jt2.le k c hc
  by_cases hb : c = big
  ·skip
   iterate 25 refine Dv ?_
   refine ⟨_, ?_, ⟨k + 1, W, T, by omega, hW, hWT, wC, bS, fun x hx => ⟨by have := (hT1 x hx).1; omega, (hT1 x hx).2⟩, fun x c' hx hc' hb' => ?_, rfl⟩, ?_⟩
   ·exact q8
   ·by_cases e : x = k
    ·subst e; rw [hc] at hc'; simp only [Option.some.injEq] at hc'; omega
    exact hT2 x c' zg hc' hb'
   exact zM
  have hkT : k ∉ T := fun h => by have := (hT1 k h).1; omega
  have hWk : W[k]? = some false := by
   obtain ⟨b, hbb⟩ := zl hW zk
   cases b with
   | false => exact hbb
   | true => exact absurd ((hWT k).1 hbb) hkT
  have hkW : k < W.length := by omega
  have hcs := (q18 W hWk).1
  iterate 23 refine Dv ?_
  refine AL.inline [1, 6, 9, 10, 11, 44, 45] (ts := [_, _, _, _, _, _, _]) (ars := [_]) rfl rfl ⟨func106, rfl, rfl, rfl, rfl⟩ rfl rfl rfl zx rfl fun kx => ?_; refine jN0 ?_; refine qs2 ?_; refine W88 ?_; refine W4 ?_; refine W74 ?_; refine ⟨[], trivial, ?_⟩; refine W20 ?_
  refine ⟨_, ?_, ⟨k + 1, W.set k true, T ++ [k], by omega, by simpa using hW, fun x => ?_, ?_, by simp; omega, fun x hx => ?_, fun x c' hx hc' hb' => ?_, rfl⟩, ?_⟩
  ·simp only [map_append, map_cons, map_nil, length_append, length_cons, length_nil, zero_add]
   exact q8
  ·rw [List.getElem?_set, mem_append, ← hWT x]
   by_cases e : k = x
   ·subst e; simp [hkW]
   simp [e, Ne.symm e]
  ·rw [List.nodup_append]
   exact ⟨wC, by simp, fun a ha b hb => by simp at hb; subst hb; rintro rfl; exact hkT ha⟩
  ·rcases List.mem_append.1 hx with hx | hx
   ·exact ⟨by have := (hT1 x hx).1; omega, (hT1 x hx).2⟩
   obtain rfl : x = k := by simpa using hx
   exact ⟨by omega, c, hc, by omega⟩
  ·by_cases e : x = k
   ·subst e; simp
   exact List.mem_append.2 (.inl (hT2 x c' zg hc' hb'))
  exact zM
 have uM : Que (vz F) (vn E) n (fun _ => False) C T := ⟨jt2, fun q hq => (hT1 q hq).2, wC, fun q p w x y h1 _ h3 h4 h5 _ => absurd (hT2 q x (by have := w3 q p w h3; omega) h4 h5) h1⟩
 clear hT1 hT2 wC; refine zY ?_; refine qn (fun s' => s' = ⟨117, [(6, .own 21 1 n false)], [(21, ⟨3, D.map V.n, false, 1⟩)], []⟩) ?_ ?_
 ·skip
  by_cases hT0 : T = []
  ·have hCD := uM.done hT0 w3
   rw [hD] at hCD; subst hT0 hCD; refine Dv ?_; refine qb (fun s' => s' = ⟨117, [(6, .own 21 1 n false), (9, .ref 9 0)], [(21, ⟨3, C.map V.n, false, 1⟩), (9, ⟨42, [.own 100 1 0 true], false, 0⟩)], []⟩) (fun s' => 0) ⟨_, ?_, rfl⟩ ?_
   ·exact q8
   rintro s' rfl; refine xB ?_; refine ⟨_, ?_, rfl⟩; exact q8
  have k56 : decide (T.length = 0) = false := by cases T with | nil => exact absurd rfl hT0 | cons => rfl
  rw [k56]; refine AW.less (jY 9 0 (.que 100 1 0 T.length) rfl rfl (.que 100 1 T.length)) ?_; refine Dv ?_
  refine qF (fun μ s' => ∃ (C : List Nat) (W : List Bool) (pre T : List Nat), 2 * C.sum + T.length ≤ μ ∧ W.length = n ∧ (∀ x, W[x]? = some true ↔ x ∈ T) ∧ W.count true = T.length ∧ Que (vz F) (vn E) n (fun _ => False) C T ∧
   s' = ⟨117, [(1, .d (.sl 1 24 (E.map qa8))), (6, .own 21 1 n false), (9, .ref 9 0), (10, .ref 10 0), (11, .fn 106 [.ref 10 0, .ref 9 0])], [(21, ⟨3, C.map V.n, false, 1⟩), (9, ⟨42, [.que 100 1 pre.length T.length], false, 0⟩), (100, ⟨3, (pre ++ T).map V.n, false, 1⟩), (10, ⟨51, [.own 41 1 n false], false, 0⟩), (41, ⟨4, W.map V.b, false, 1⟩)], []⟩) ⟨_, _, ?_, C, W, [], T, le_refl _, hW, hWT, bS, uM, rfl⟩ ?_
  ·exact q8
  rintro μ s' ⟨C, W, pre, T, hμ, hW, hWT, bS, uM, rfl⟩
  by_cases hTe : T = []
  ·have hCD := uM.done hTe w3
   rw [hD] at hCD; obtain ⟨t, ht⟩ : ∃ t, T.length = t := ⟨_, rfl⟩; have hz : ¬ 0 < t := by rw [← ht, hTe]; simp
   rw [ht]; subst hCD; refine xd ?_; refine qe rfl rfl (qx5 underlying42 rfl rfl) ?_; refine zW ?_; refine ⟨_, ?_, rfl⟩; exact q8
  obtain ⟨q, T', rfl⟩ : ∃ q T', T = q :: T' := by cases T with | nil => exact absurd rfl hTe | cons q T' => exact ⟨q, T', rfl⟩
  obtain ⟨t, ht⟩ : ∃ t, T'.length = t := ⟨_, rfl⟩; have zI : (q :: T').length = t + 1 := by simp [ht]
  rw [zI] at hμ bS ⊢; obtain ⟨xq, hxq, hxb⟩ := uM.fin q zx; have hqn : q < n := by have := (List.getElem?_eq_some_iff.1 hxq).1; rw [uM.snd.len] at this; exact this
  obtain ⟨hqT, uM⟩ := uM.take; obtain ⟨l, hl⟩ := zl hE hqn; obtain ⟨wB, hlp⟩ := hEl l (mem_of_getElem? hl); obtain ⟨la, xr⟩ : ∃ n, l.length = n := ⟨_, rfl⟩; rw [xr] at wB; have hq0 : (pre ++ q :: T')[pre.length + 0]? = some q := by rw [Nat.add_zero, List.getElem?_append_right (le_refl _)]; simp
  have hWq : W[q]? = some true := (hWT q).2 zx; have hqW : q < W.length := by omega
  have hcc := j14 W hWq; have wl : (pre ++ [q]).length = pre.length + 1 := by simp
  refine xd ?_; refine qe rfl rfl (qx5 underlying42 rfl rfl) ?_; refine x8 ?_; refine qe rfl rfl (qR8 (j := 0) underlying42 zz rfl rfl rfl zg zg) ?_; refine zC ?_; refine AL.rd rfl rfl (qR9 (j := 1) underlying42 zz rfl rfl rfl zg zg) ?_; refine qf rfl (vA u9 rfl rfl rfl rfl rfl rfl rfl zT7 rfl) ?_; refine jq1 ?_; refine ve ?_
  refine qb (fun s' => ∃ (i : Nat) (C : List Nat) (W : List Bool) (pre T : List Nat), i ≤ la ∧ 2 * C.sum + T.length < μ ∧ W.length = n ∧ (∀ x, W[x]? = some true ↔ x ∈ T) ∧ W.count true = T.length ∧ Que (vz F) (vn E) n (fun x => x = q) C T ∧ C[q]? = some xq ∧ (∀ (j : Nat) (e : Nat × Nat) (y : Nat), j < i → l[j]? = some e → C[e.1]? = some y → y ≤ xq + e.2) ∧
   s' = ⟨117, [(1, .d (.sl 1 24 (E.map qa8))), (6, .own 21 1 n false), (9, .ref 9 0), (10, .ref 10 0), (11, .fn 106 [.ref 10 0, .ref 9 0]), (13, .i q), (71, .d (.sl 2 16 (l.map fun e => [.p (.int .i64 (e.1 : Int)), .p (.int .i64 (e.2 : Int))]))), (72, .i la), (73, .i i)], [(21, ⟨3, C.map V.n, false, 1⟩), (9, ⟨42, [.que 100 1 pre.length T.length], false, 0⟩), (100, ⟨3, (pre ++ T).map V.n, false, 1⟩), (10, ⟨51, [.own 41 1 n false], false, 0⟩), (41, ⟨4, W.map V.b, false, 1⟩)], []⟩) (fun s' => la - s'.nat 73) ⟨_, ?_, 0, C, W.set q false, pre ++ [q], T', by omega, by omega, by simpa using hW, fun x => ?_, by omega, uM, hxq, (fun j e y h => absurd h zg), rfl⟩ ?_
  ·rw [wl, ht]
   simp only [append_assoc, cons_append, nil_append]; exact q8
  ·rw [List.getElem?_set]
   by_cases e : q = x
   ·subst e; simp [hqW, hqT]
   rw [if_neg e, hWT x]; simp [Ne.symm e]
  clear hμ hW hWT bS uM hxq hq0 hWq hqW hcc wl ht zI hqT hTe; rintro s' ⟨i, C, W, pre, T, hi, hμ, hW, hWT, bS, uM, hxq, yS, rfl⟩; have xM : W.count true ≤ W.length := List.count_le_length
  by_cases vr : i < la
  ·obtain ⟨e0, hy⟩ := zl xr vr
   have qa7 : (e0.1, e0.2) ∈ l := mem_of_getElem? hy; obtain ⟨wa, hw9⟩ := hlp e0.1 e0.2 qa7; have q47 : vn E q e0.1 e0.2 := ⟨l, hl, qa7⟩; obtain ⟨y, hyC⟩ := zl uM.snd.len wa; have hyb := uM.snd.le _ _ hyC; have hpC : e0.1 < C.length := by rw [uM.snd.len]; exact wa
   by_cases hc : xq + e0.2 < y
   ·have zT : e0.1 ≠ q := by
     intro e; rw [e, hxq] at hyC; simp only [Option.some.injEq] at hyC; omega
    have xn : ∀ z : Nat, C[e0.1]? = some z → xq + e0.2 < z := fun z hz => by rw [hyC] at hz; simp only [Option.some.injEq] at hz; omega
    have kb1 := j44 C e0.1 (xq + e0.2) y hyC hc; have jP6 : (C.set e0.1 (xq + e0.2))[q]? = some xq := by rw [List.getElem?_set_ne zT]; exact hxq
    have ji7 : ∀ (j : Nat) (e : Nat × Nat) (z : Nat), j < i + 1 → l[j]? = some e → (C.set e0.1 (xq + e0.2))[e.1]? = some z → z ≤ xq + e.2 := by
     intro j e z hj he hz; rw [List.getElem?_set] at hz
     by_cases ej : j = i
     ·subst ej
      rw [hy] at he; simp only [Option.some.injEq] at he; subst he; simp [hpC] at hz; omega
     split at hz
     ·rename_i e1
      simp only [Option.some.injEq] at hz; have := yS j e y zg he (by rw [← e1]; exact hyC); omega
     exact yS j e z zg he hz
    obtain ⟨b, hb⟩ := zl hW wa
    cases b with
    | true =>
     have hpT := (hWT e0.1).1 hb; have wO := uM.less q47 hxq hxb wa xn (T' := T) (by rw [if_pos hpT]); refine jq0 ?_; refine W31 ?_; refine W21 ?_; refine W16 ?_; refine yW ?_; refine qf rfl (zX (v := xq + e0.2) zz rfl rfl rfl rfl rfl rfl rfl rfl zT9) ?_; refine zC ?_
     refine AL.inline [1, 6, 9, 10, 11, 13, 71, 72, 73] (ts := [_, _, _, _, _, _, _, _, _]) (ars := [_]) rfl rfl ⟨func106, rfl, rfl, rfl, rfl⟩ rfl rfl rfl zx rfl fun kx => ?_; refine jN1 ?_; refine ⟨[], trivial, ?_⟩; refine W20 ?_; refine ⟨_, ?_, ⟨i + 1, C.set e0.1 (xq + e0.2), W, pre, T, by omega, by omega, hW, hWT, bS, wO, jP6, ji7, rfl⟩, ?_⟩
     ·exact q8
     exact zM
    | false =>
     have hpT : e0.1 ∉ T := fun h => by have := (hWT e0.1).2 h; rw [hb] at this; cases this
     have wO := uM.less q47 hxq hxb wa xn (T' := T ++ [e0.1]) (by rw [if_neg hpT]); have hpW : e0.1 < W.length := by omega
     have hcs := (q18 W hb).1; refine jq0 ?_; refine W31 ?_; refine W21 ?_; refine W16 ?_; refine yW ?_; refine qf rfl (zX (v := xq + e0.2) zz rfl rfl rfl rfl rfl rfl rfl rfl zT9) ?_; refine zC ?_; refine AL.inline [1, 6, 9, 10, 11, 13, 71, 72, 73] (ts := [_, _, _, _, _, _, _, _, _]) (ars := [_]) rfl rfl ⟨func106, rfl, rfl, rfl, rfl⟩ rfl rfl rfl zx rfl fun kx => ?_; refine jN0 ?_; refine qs2 ?_
     refine W88 ?_; refine jX rfl (qM3 underlying42 zz rfl rfl rfl rfl rfl rfl rfl rfl (fun l => xc _ l) rfl rfl rfl rfl rfl zg zj rfl) ?_; intro pre2; refine g0 ?_; refine W74 ?_; refine ⟨[], trivial, ?_⟩; refine W20 ?_
     refine ⟨_, ?_, ⟨i + 1, C.set e0.1 (xq + e0.2), W.set e0.1 true, pre2, T ++ [e0.1], by omega, by simp; omega, by simpa using hW, fun x => ?_, by simp; omega, wO, jP6, ji7, rfl⟩, ?_⟩
     ·simp only [length_append, length_cons, length_nil, zero_add]
      exact q8
     ·rw [List.getElem?_set, mem_append, ← hWT x]
      by_cases e : e0.1 = x
      ·subst e; simp [hpW]
      simp [e, Ne.symm e]
     exact zM
   skip; refine jq0 ?_; refine W31 ?_; refine W21 ?_; refine W16 ?_; refine uq ?_; refine ⟨_, ?_, ⟨i + 1, C, W, pre, T, by omega, hμ, hW, hWT, bS, uM, hxq, fun j e z hj he hz => ?_, rfl⟩, ?_⟩
   ·exact q8
   ·by_cases ej : j = i
    ·subst ej
     rw [hy] at he; simp only [Option.some.injEq] at he; subst he; rw [hyC] at hz; simp only [Option.some.injEq] at hz; omega
    exact yS j e z zg he hz
   exact zM
  skip; refine zY ?_; refine ⟨_, _, ?_, ⟨C, W, pre, T, le_refl _, hW, hWT, bS, uM.settle fun p w x z he hx hz => ?_, rfl⟩, hμ⟩
  ·exact q8
  rw [hxq] at hx; simp only [Option.some.injEq] at hx; subst hx; obtain ⟨l', h1, h2⟩ := he; rw [hl] at h1; simp only [Option.some.injEq] at h1; subst h1; obtain ⟨j, hj⟩ := List.getElem?_of_mem h2; exact yS j (p, w) z (by have := (List.getElem?_eq_some_iff.1 hj).1; omega) hj hz
 rintro s' rfl; clear jt2 hCl; refine x8 ?_; refine qb (fun s' => ∃ k : Nat, k ≤ n ∧ (∀ j x : Nat, j < k → D[j]? = some x → okD x = true) ∧ s' = ⟨117, [(6, .own 21 1 n false), (101, .own 21 1 n false), (102, .i n), (103, .i k)], [(21, ⟨3, (gH vL k D).map V.n, false, 1⟩)], []⟩) (fun s' => n - s'.nat 103) ⟨_, ?_, 0, by omega, (fun j x h => absurd h zg), rfl⟩ ?_
 ·rw [ji0]; exact q8
 rintro s' ⟨k, hk, x6, rfl⟩
 by_cases zk : k < n
 ·obtain ⟨x, hx⟩ := zl hDl zk
  have hpx := qR2 (f := vL) hx; have wl : k < (gH vL k D).length := by rw [js2]; omega
  have hxb := hDb x (mem_of_getElem? hx)
  have qS7 : okD x = true → ∀ j z : Nat, j < k + 1 → D[j]? = some z → okD z = true := by
   intro h j z hj hz
   by_cases e : j = k
   ·subst e; rw [hx] at hz; simp only [Option.some.injEq] at hz; subst hz; exact h
   exact x6 j z zg hz
  by_cases hb : x = big
  ·have xR := qR3 (f := vL) hx
   rw [show vL x = 1000000001 by simp [vL, hb]] at xR
   refine gC ?_; refine qf rfl (zX (v := 1000000001) zz rfl rfl rfl rfl rfl rfl rfl rfl zT9) ?_; refine zC ?_; refine ⟨_, ?_, ⟨k + 1, by omega, qS7 (by simp [okD, hb]), rfl⟩, ?_⟩
   ·rw [← xR]; exact q8
   exact zM
  by_cases hov : 1000000000 < x
  ·have xE : D.all okD = false := qc4 hx (by simp [okD, hb]; omega)
   refine bL ?_
   exact ⟨[_, _], [], zU4, trivial, .inr ⟨xE, rfl, rfl⟩, by simp [zZ, V.has, V.hasL], fun r row k h1 => by cases h1⟩
  have hps := jh9 (f := vL) hx (by simp [vL, hb]); refine bL ?_; refine ⟨_, ?_, ⟨k + 1, by omega, qS7 (by simp [okD]; omega), rfl⟩, ?_⟩
  ·rw [← hps]; exact q8
  exact zM
 have xE : D.all okD = true := by
  rw [all_eq_true]; intro x hx; obtain ⟨j, hj⟩ := List.getElem?_of_mem hx; exact x6 j x (by have := (List.getElem?_eq_some_iff.1 hj).1; omega) hj
 rw [ji1 _ zg]; refine wn ?_
 exact ⟨[_, _], [(21, ⟨3, (D.map vL).map V.n, false, 1⟩)], ⟨rfl, rfl, trivial⟩, ⟨rfl, trivial⟩, .inl ⟨xE, rfl, rfl⟩, by simp [zZ, V.has, V.hasL], fun r row k h1 h2 => by
  simp only [fnd, beq_iff_eq] at h1
  split at h1
  ·cases h1; rw [xc] at h2; cases h2
  cases h1⟩
theorem jE8 (F : List Nat) (E : List (List (Nat × Nat))) (n : Nat) (hF : F.length = n) (hE : E.length = n) (jc9 : n ≤ 60) (hFx : ∀ x ∈ F, x ≤ 1000000001) (hEl : ∀ l ∈ E, l.length ≤ 24000 ∧ ∀ p w, (p, w) ∈ l → p < n ∧ w ≤ 1000000000) (jB9 : (ws (vz F) (vn E) n).all okD = true) :
  FnO prog 73 [.d (yl F), .d (.sl 1 24 (E.map qa8))] (fun v H => v = .tup [.own 21 1 n false, .i 0] ∧ H = [(21, ⟨3, ((ws (vz F) (vn E) n).map vL).map V.n, false, 1⟩)]) := fun w out g xs h1 h2 =>
 (j49 F E n hF hE jc9 hFx hEl w out g xs h1 h2).mono fun e w' ⟨v, x, g', H, k1, k2, k3⟩ => ⟨v, x, g', H, k1, k2.elim (fun k => k.2) (fun k => by rw [k.1] at jB9; exact absurd jB9 zj), k3⟩
theorem jP7 (F : List Nat) (E : List (List (Nat × Nat))) (n : Nat) (hF : F.length = n) (hE : E.length = n) (jc9 : n ≤ 60) (hFx : ∀ x ∈ F, x ≤ 1000000001) (hEl : ∀ l ∈ E, l.length ≤ 24000 ∧ ∀ p w, (p, w) ∈ l → p < n ∧ w ≤ 1000000000) :
  Fn prog 73 [.d (yl F), .d (.sl 1 24 (E.map qa8))] (js9 (ws (vz F) (vn E) n)) := by
 intro w out g xs ho hx; refine (j49 F E n hF hE jc9 hFx hEl w out g xs ho hx).mono ?_; have hDl : (ws (vz F) (vn E) n).length = n := by simp [ws]
 rintro e w' ⟨v, x, g', H, rfl, hv, hk, hO, h3, h4⟩
 rcases hv with ⟨xE, rfl, rfl⟩ | ⟨xE, rfl, rfl⟩
 ·refine ⟨_, x, rfl, .inl ⟨xE, rfl⟩, by simp [V.pure, V.has, V.hasL], ?_, h4⟩
  obtain ⟨arr, o1, _, o3⟩ := hO.obj 21 _ rfl rfl; have vY := hO.new 21 _ rfl rfl
  cases h3 with
  | tup _ cs hl hh =>
   refine .tup _ cs hl fun j u z hu hz => ?_
   match j, hu with
   | 0, hu =>
    simp only [List.getElem?_cons_zero, Option.some.injEq] at hu; subst hu; have h5 := hh 0 _ z rfl hz; refine .d _ _ ?_
    have hat : ∀ (i : Nat) (y : Nat), ((ws (vz F) (vn E) n).map vL)[i]? = some y → arr[i]? = some (.int .i64 (y : Int)) := fun i y hy => by
     obtain ⟨q, h6, h7⟩ := o3 i (V.n y) (by rw [List.getElem?_map, hy]; rfl); rw [VRep.p_eq h7] at h6; exact h6
    have vi : ∀ (i j : Nat) (l : List D) (u : D), (((ws (vz F) (vn E) n).map vL).map vp)[i]? = some l → l[j]? = some u → ∃ y : Nat, j = 0 ∧ u = .p (.int .i64 (y : Int)) ∧ arr[i]? = some (.int .i64 (y : Int)) := fun i j l u h6 h7 => by
     rw [List.getElem?_map] at h6
     cases h8 : ((ws (vz F) (vn E) n).map vL)[i]? with
     | none => rw [h8] at h6; cases h6
     | some y =>
      rw [h8] at h6; simp only [map_some, Option.some.injEq] at h6; subst h6
      cases j with
      | succ j => simp at h7
      | zero => simp at h7; exact ⟨y, rfl, h7.symm, hat i y h8⟩
    have zI : (((ws (vz F) (vn E) n).map vL).map vp).length = n := by simp [hDl]
    show DRep w' (fun b => ¬ out b) (yl ((ws (vz F) (vn E) n).map vL)) z
    cases h5 with
    | own _ _ _ hn vK =>
     have key := DRep.sl (w := w') (q := fun b => ¬ out b) 1 8 (((ws (vz F) (vn E) n).map vL).map vp) (some ⟨(g' 21).1, 0, none⟩) (g' 21).2 (g' 21).1 0 (fun i j => arr.getD i undef) (by rw [zI]; exact hn) (fun _ => ⟨rfl, fun hb => by have := ho _ hb; omega, (Array.getElem?_eq_some_iff.1 o1).1⟩) (by rw [zI]; omega) (fun i j l u h6 h7 => by
      obtain ⟨y, rfl, _, h8⟩ := vi i j l u h6 h7; rw [cell_of_row w' _ _ _ _ _ o1]
      simp [Array.getD_eq_getD_getElem?, h8]) (fun i j l u h6 h7 => by
      obtain ⟨y, rfl, rfl, h8⟩ := vi i j l u h6 h7; simp only [Array.getD_eq_getD_getElem?, h8, getD_some]
      exact .p _)
     rw [zI] at key; exact key
   | 1, hu =>
    simp only [List.getElem?_cons_succ, List.getElem?_cons_zero, Option.some.injEq] at hu; subst hu; rw [VRep.p_eq (hh 1 _ z rfl hz)]; exact .d _ _ (.p _)
   | j + 2, hu => simp at hu
 exact ⟨_, x, rfl, .inr ⟨xE, rfl⟩, by simp [V.pure, V.has, V.hasL], (h3.repure zT8).mono Cells.rfl (fun b hb _ => hb.1) (fun r _ => rfl), h4⟩
end Go.Proofs.YthiknkcigcglkaaGreatDoor
