/- Part 29 of what the law SameSames rests on. -/
import Derived.Test.YthiknkcigcglkaaGreatDoorPkSS25
import Derived.Test.YthiknkcigcglkaaGreatDoorPkSS26
namespace Go.Proofs.YthiknkcigcglkaaGreatDoor
open Go.RowKit
open Go.Proofs.Tryz
open List (append_nil drop_eq_getElem_cons drop_succ_cons drop_zero ext_getElem? flatMap_append flatMap_cons flatMap_nil length_append length_cons length_map length_nil map_append map_cons map_nil mem_of_getElem? nil_append take_of_length_le take_zero zipIdx_cons)
open Nat (le_refl le_trans reduceAdd succ_mul zero_add)
set_option linter.unusedSimpArgs false
set_option linter.unusedVariables false
set_option maxRecDepth 100000
set_option maxHeartbeats 8000000
variable {j u x : Nat} {m : zr} {a b e : Int}
abbrev sD (d : List Nat) : D := .sl 1 8 (d.map vp)
theorem jU5 {l : List Nat} (h : x ∈ l) : mnL l ≤ x := by
 have key : ∀ (l : List Nat) (n : Nat), (l.foldl (fun n x => if x < n then x else n) n ≤ n) ∧ ∀ x ∈ l, l.foldl (fun n x => if x < n then x else n) n ≤ x := by
  intro l
  induction l with
  | nil => intro n; exact ⟨le_refl _, fun x hx => by cases hx⟩
  | cons y l ih =>
   intro n; rw [List.foldl_cons]
   obtain ⟨h1, h2⟩ := ih (if y < n then y else n)
   refine ⟨le_trans h1 (by split <;> omega), fun x hx => ?_⟩
   rcases List.mem_cons.1 hx with rfl | hx
   ·exact le_trans h1 (by split <;> omega)
   exact h2 x hx
 exact (key l big).2 x h
theorem j89 (sts : List St) (d : List Nat) : (prS sts d).length ≤ xp sts := by grind [qF8, inO, prA, qF7, xp, List.take_append_drop, prS]
theorem upK {q K : Nat} (h : u ≤ q * K + K) (h1 : q + 1 ≤ j) : u ≤ j * K := le_trans (by rw [succ_mul]; exact h : u ≤ (q + 1) * K) (Nat.mul_le_mul_right K h1)
theorem up9 {q : Nat} (h : u = big ∨ u ≤ q * 1000000000 + 1000000000) (h1 : q + 1 ≤ j) : u = big ∨ u ≤ j * 1000000000 := by
 rcases h with h | h
 ·exact .inl h
 exact .inr (upK h h1)
def jy9 (e : Int) (M : zr) (v : V) : Prop := e ≠ 0 ∧ v = .tup [.agg [.i 0, .nil], .i e] ∨ e = 0 ∧ (v = .tup [mV M, .i 0] ∨ M.states = [] ∧ v = .tup [.agg [.i M.start, .nil], .i 0])
theorem j90 (h0 : zn m = 0) (hf : bFl m.states = true) (hs : m.start < 0) : ceE m = 0 ∧ ceM m = ⟨-1, []⟩ := by grind [ceE, ceM]
theorem j91 {P : List St} (h0 : zn m = 0) (hf : bFl m.states = true) (hs : ¬ m.start < 0) (hr : qi5 m = (e, P)) : ceE m = e ∧ (e = 0 → ceM m = ⟨0, P⟩) := by grind [ceE, ceM]
theorem qN1 (m : zr) : Fn prog 26 [mV m] (fun v => jy9 (ceE m) (ceM m) v) := by
 have wI := j87 m; have gI := yz
 by_cases h0 : zn m = 0
 ·rw [qd6 h0, h0] at wI
  cases xA : bFl m.states with
  | false =>
   have hE : ceE m = 7 := by unfold ceE; rw [if_neg (by simp [h0]), if_pos xA]
   rw [hE]; rw [xA] at wI; clear hE h0 xA; obtain ⟨st, sts⟩ := m; refine qc 231 fun w0 out => ?_; refine W96 ?_; refine qa wI ?_; refine zQ ?_; refine W27 ?_; refine yB ?_; refine W11 ?_; exact ⟨[_, _], zU1, zU8, zU0⟩
  | true =>
   rw [xA] at wI
   by_cases y7 : m.start < 0
   ·obtain ⟨hE, hM⟩ := j90 h0 xA y7
    rw [hE, hM]; clear hE hM h0 xA; obtain ⟨st, sts⟩ := m; simp only at y7; refine qc 231 fun w0 out => ?_; refine W96 ?_; refine qa wI ?_; refine zQ ?_; refine W27 ?_; refine jN6 ?_; refine zW ?_; exact ⟨[_, _], zU1, .inr ⟨rfl, .inr ⟨rfl, rfl⟩⟩, zU0⟩
   obtain ⟨e, P0, zv⟩ : ∃ e P, qi5 m = (e, P) := ⟨_, _, rfl⟩; obtain ⟨hE, hM⟩ := j91 h0 xA y7 zv; rw [hE]; obtain ⟨M, hMd⟩ : ∃ M, ceM m = M := ⟨_, rfl⟩; rw [hMd] at hM ⊢; obtain ⟨z60, z400, zst, zok⟩ := xj h0
   have hx4 : ∀ x ∈ m.states, x.arcs.length ≤ 400 := fun x hx => le_trans (qn8 hx) z400
   clear hMd h0 xA hE; obtain ⟨st, sts⟩ := m; simp only at y7 z60 z400 zst zok hx4
   obtain ⟨s, rfl⟩ := Int.eq_ofNat_of_zero_le (show 0 ≤ st by omega)
   obtain ⟨n, hn⟩ : ∃ n, sts.length = n := ⟨_, rfl⟩; have hr0 : q77 sts 61 [yD n s] 0 [] = (e, P0) := by grind [qi5, Int.toNat_natCast]
   clear zv
   have jz0 : ∀ x ∈ sts, ∀ a ∈ x.arcs, a.w ≤ 1000000000 := fun x hx a ha => by grind [xl]
   rw [hn] at z60 zst zok; have vl : s < n := by omega
   have jm7 := fun (d : List Nat) (hd : d.length = n) => jx2 (s : Int) sts d n z60 z400 hn hd
   have jz1 := fun (d : List Nat) (i o : Int) (hd : d.length = n) (hb : ∀ x ∈ d, x = big ∨ x ≤ 1000000000000) => jk6 (s : Int) sts d i o n z60 hn hd hb hx4 fun x hx => (zok x hx).2
   refine qc 231 fun w0 out => ?_; refine W96 ?_; refine qa wI ?_; refine zQ ?_; refine W27 ?_
   iterate 34 refine Dv ?_
   refine q9 rfl (vg 47 V.i (0) underlying42 zz rfl rfl rfl rfl rfl zg zj rfl rfl) ?_; refine x8 ?_
   refine qb (fun s' => ∃ (k : Nat) (R : List Nat), k ≤ n ∧ R.length = n ∧ (∀ j, j < k → R[j]? = some big) ∧ s' = ⟨231, [(1, .ref 1 0), (2, .ref 2 0), (6, .i n), (7, .own 47 1 n false), (8, .i k)], [(1, ⟨24, [.i (s : Int), .d (zq sts)], false, 0⟩), (2, ⟨24, [.i 0, .nil], false, 0⟩), (47, ⟨3, R.map V.n, false, 1⟩)], []⟩) (fun s' => n - s'.nat 8) ⟨_, ?_, 0, List.replicate n 0, by omega, by simp, (fun j h => absurd h zg), rfl⟩ ?_
   ·have hz : (List.replicate n (0 : Int)).map V.i = (List.replicate n 0).map V.n := by simp
    rw [hz]; exact q8
   rintro s' ⟨k, R, hk, hRl, hR, rfl⟩
   by_cases zk : k < n
   ·have hkR : k < R.length := by omega
    refine vF ?_; refine qf rfl (zX (v := big) zz rfl rfl rfl rfl rfl rfl rfl rfl zT9) ?_; refine zY ?_; refine ⟨_, ?_, ⟨k + 1, R.set k big, by omega, by simpa using hRl, fun j hj => ?_, rfl⟩, ?_⟩
    ·exact q8
    ·grind
    exact zM
   obtain rfl : k = n := by omega
   have hR0 : R = List.replicate k big := by
    refine ext_getElem? fun j => ?_
    by_cases hj : j < k
    ·rw [hR j hj, List.getElem?_replicate, if_pos hj]
    grind
   have hsR : s < R.length := by omega
   have jU6 : R.set s 0 = yD k s := by rw [hR0]; rfl
   have qo2 : (yD k s).length = k := by simp [yD]
   refine xS ?_; refine qf rfl (zX (v := 0) zz rfl rfl rfl rfl rfl rfl rfl rfl zT9) ?_; refine Dv ?_; apply qg; rw [jU6]; refine qk 7 8 ((yD k s).map vp) rfl rfl rfl (by rw [length_map, qo2]) zg (yk rfl) ?_; refine zR ?_; refine q9 rfl (zN (vs := [(0, _)]) (zs := [.nil]) 61 underlying84 u9 rfl rfl zj zj zj rfl rfl rfl rfl rfl rfl rfl) ?_; refine xd ?_; refine jM3 ?_; refine zC ?_; refine q63 ?_
   refine qq 10 1 902 2 35 rfl rfl rfl zT1 ?_; refine zW ?_; clear hR hR0 hsR jU6 hRl wI zk
   have hB0 : ∀ (j : Nat) (d : List Nat), [yD k s][j]? = some d → ceB k (j * 1000000000) d := fun j d hj => by
    cases j with
    | succ j => simp at hj
    | zero =>
     simp at hj; subst hj; refine ⟨qo2, fun x hx => ?_⟩; unfold yD at hx
     rcases List.mem_or_eq_of_mem_set hx with hx | rfl
     ·exact .inl (List.eq_of_mem_replicate hx)
     exact .inr zg
   refine qF (fun μ s' => ∃ (L : List (List Nat)) (a : Nat) (P : List St), 61 - P.length ≤ μ ∧ q77 sts (61 - P.length) L a P = (e, P0) ∧ L.Nodup ∧ (∀ (j : Nat) (d : List Nat), L[j]? = some d → ceB k (j * 1000000000) d) ∧ P.length ≤ L.length ∧ L.length ≤ 60 ∧ a ≤ 400 ∧ s' = ⟨231, [(1, .ref 1 0), (2, .ref 2 0), (6, .i k), (9, .own 61 1 L.length false), (10, .ref 10 0), (12, .i P.length), (11, .i a)], [(1, ⟨24, [.i (s : Int), .d (zq sts)], false, 0⟩), (2, ⟨24, [.i 0, .nil], false, 0⟩), (61, ⟨42, L.map fun d => V.d (sD d), false, 1⟩), (10, ⟨24, [.i 0, .own 902 2 P.length (decide (P.length = 0))], false, 0⟩), (902, ⟨35, P.flatMap xT, decide (P.length = 0), 2⟩)], []⟩) ⟨61, _, ?_, [yD k s], 0, [], by simp, by simpa using hr0, by simp, hB0, by simp, by simp, by omega, rfl⟩ ?_
   ·exact q8
   clear hB0 hr0 qo2; rintro μ s' ⟨L, a, P, hμ, vf, wC, hBd, wy, jg3, ha4, rfl⟩; obtain ⟨q, wu⟩ : ∃ q, P.length = q := ⟨_, rfl⟩; obtain ⟨lt, zk⟩ : ∃ lt, L.length = lt := ⟨_, rfl⟩
   have qZ3 : (P.flatMap xT).length = q * 2 := by rw [vh (sz := 2) (fun _ => rfl), wu]
   rw [wu, zk] at wy; rw [zk] at jg3; rw [wu] at hμ vf; simp only [wu, zk]
   by_cases hql : q < lt
   ·obtain ⟨d, hd⟩ := zl zk hql
    obtain ⟨hdl, hdB⟩ := hBd q d hd
    have hdb : ∀ x ∈ d, x = big ∨ x ≤ 1000000000000 := fun x hx => by have := hdB x hx; omega
    rw [show 61 - q = (60 - q) + 1 by omega, j83 (by rw [wu]; exact hd), hdl] at vf
    have hf0 : (1152921504606846976 : Int) = ((wX sts d 0 : Nat) : Int) := rfl
    iterate 26 refine Dv ?_
    refine qb (fun s' => ∃ (j : Nat) (v : Int), j ≤ k ∧ v = ((wX sts d j : Nat) : Int) ∧ s' = ⟨231, [(1, .ref 1 0), (2, .ref 2 0), (6, .i k), (9, .own 61 1 lt false), (10, .ref 10 0), (12, .i q), (11, .i a), (13, .d (sD d)), (14, .i v), (15, .i j)], [(1, ⟨24, [.i (s : Int), .d (zq sts)], false, 0⟩), (2, ⟨24, [.i 0, .nil], false, 0⟩), (61, ⟨42, L.map fun d => V.d (sD d), false, 1⟩), (10, ⟨24, [.i 0, .own 902 2 q (decide (q = 0))], false, 0⟩), (902, ⟨35, P.flatMap xT, decide (q = 0), 2⟩)], []⟩) (fun s' => k - s'.nat 15) ⟨_, ?_, 0, 1152921504606846976, by omega, hf0, rfl⟩ ?_
    ·exact q8
    clear hf0; rintro s' ⟨j, v, hj, hv, rfl⟩
    by_cases hjk : j < k
    ·obtain ⟨c, hc⟩ := zl hdl hjk
     obtain ⟨x, hx⟩ := zl hn hjk; have hcb := hdb c (mem_of_getElem? hc); have hxf := (zok x (mem_of_getElem? hx)).1; have hs := j82 hc hx; have hfb := qG1 sts d j; obtain ⟨xf, xa⟩ := x; simp only [vy, decide_eq_true_eq] at hxf; obtain ⟨f, rfl⟩ := Int.eq_ofNat_of_zero_le hxf.1; simp only [Int.toNat_natCast] at hs
     by_cases c1 : c = big
     ·have hs2 : wX sts d (j + 1) = wX sts d j := by rw [hs, if_neg (fun h => h.1 c1)]
      have qu0 : ¬ ((c : Int) ≠ 1152921504606846976) := by omega
      refine W53 ?_; refine W19 ?_; refine W44 ?_; refine ⟨_, ?_, ⟨j + 1, v, by omega, by rw [hs2]; exact hv, rfl⟩, ?_⟩
      ·exact q8
      exact zM
     have qu0 : (c : Int) ≠ 1152921504606846976 := by omega
     by_cases c2 : (f : Int) = 1000000001
     ·have hs2 : wX sts d (j + 1) = wX sts d j := by rw [hs, if_neg (fun h => h.2.1 c2)]
      refine W53 ?_; refine W19 ?_; refine W44 ?_; refine ⟨_, ?_, ⟨j + 1, v, by omega, by rw [hs2]; exact hv, rfl⟩, ?_⟩
      ·exact q8
      exact zM
     by_cases c3 : (c : Int) + (f : Int) < v
     ·have hs2 : wX sts d (j + 1) = c + f := by rw [hs, if_pos ⟨c1, c2, by omega⟩]
      refine W53 ?_; refine W19 ?_; refine W16 ?_; refine Dv ?_; refine W59 ?_; refine qk7 ?_; refine ⟨_, ?_, ⟨j + 1, (c : Int) + (f : Int), by omega, by rw [hs2]; omega, rfl⟩, ?_⟩
      ·exact q8
      exact zM
     have hs2 : wX sts d (j + 1) = wX sts d j := by rw [hs, if_neg (fun h => c3 zg)]
     refine W53 ?_; refine W19 ?_; refine W44 ?_; refine ⟨_, ?_, ⟨j + 1, v, by omega, by rw [hs2]; exact hv, rfl⟩, ?_⟩
     ·exact q8
     exact zM
    obtain rfl : j = k := by omega
    obtain ⟨fv, hfv⟩ : ∃ fv, wX sts d j = fv := ⟨_, rfl⟩; rw [hfv] at vf hv; subst hv; clear hjk
    by_cases hov : fv ≠ big ∧ 1000000000 < fv
    ·rw [if_pos hov] at vf
     obtain ⟨rfl, _⟩ := Prod.mk.inj vf; have q98 := qm2 fv hov.1 hov.2; refine ve ?_; refine qa q98 ?_; refine W93 ?_; refine W14 ?_; exact ⟨[_, _], zU1, zU8, zU0⟩
    rw [if_neg hov] at vf
    have q98 : Fn prog 55 [.i ((fv : Nat) : Int)] (fun v => v = .tup [.i (gv fv), .i 0]) := by
     unfold gv
     by_cases hb : fv = big
     ·rw [if_pos hb]; exact qm1 fv hb
     rw [if_neg hb]; exact qx7 fv hb zg
    generalize gv fv = ft at q98 vf; have hpr := jm7 d hdl; have hp4 : (prS sts d).length ≤ 400 := le_trans (j89 sts d) z400; generalize prS sts d = PR at hpr vf hp4; obtain ⟨lp, hlp⟩ : ∃ lp, PR.length = lp := ⟨_, rfl⟩; rw [hlp] at hp4; clear hov hfv; refine ve ?_; refine qa q98 ?_; refine zQ ?_; refine uq ?_; refine qe rfl rfl (xI (vs := [(0, _)]) (zs := [.i 0, .nil]) qa2 xD rfl rfl rfl rfl) ?_
    refine q9 rfl (zp (l := [.i 0, .nil]) 18 xD rfl zT0 rfl rfl) ?_; refine W31 ?_; refine qq 18 1 903 4 47 rfl rfl rfl zT1 ?_; refine xd ?_; refine qa hpr ?_; refine zQ ?_; refine x8 ?_; have qA3 : yC sts d (PR.drop 0) L a [] = yC sts d PR L a [] := by rw [drop_zero]
    clear hpr q98 jm7
    refine qb (fun s' => ∃ (i : Nat) (L' : List (List Nat)) (a' : Nat) (o : List Ar), i ≤ lp ∧ yC sts d (PR.drop i) L' a' o = yC sts d PR L a [] ∧ L'.Nodup ∧ (∀ (j' : Nat) (d : List Nat), L'[j']? = some d → ceB j (j' * 1000000000) d) ∧ q < L'.length ∧ L'.length ≤ 60 ∧ a' ≤ 400 ∧ o.length ≤ a' ∧ s' = ⟨231, [(1, .ref 1 0), (2, .ref 2 0), (6, .i j), (9, .own 61 1 L'.length false), (10, .ref 10 0), (12, .i q), (11, .i a'), (13, .d (sD d)), (18, .ref 18 0), (19, .d (zU PR)), (20, .i i)], [(1, ⟨24, [.i (s : Int), .d (zq sts)], false, 0⟩), (2, ⟨24, [.i 0, .nil], false, 0⟩), (61, ⟨42, L'.map fun d => V.d (sD d), false, 1⟩), (10, ⟨24, [.i 0, .own 902 2 q (decide (q = 0))], false, 0⟩), (902, ⟨35, P.flatMap xT, decide (q = 0), 2⟩), (18, ⟨35, [.i ft, .own 903 4 o.length (decide (o.length = 0))], false, 0⟩), (903, ⟨47, o.flatMap vG, decide (o.length = 0), 4⟩)], []⟩) (fun s' => lp - s'.nat 20) ⟨_, ?_, 0, L, a, [], by omega, qA3, wC, hBd, by omega, by omega, ha4, by simp, rfl⟩ ?_
    ·rw [zk]; exact q8
    clear qA3 wC hBd; rintro s' ⟨i, L', a', o, hi, zv, wC, hBd, jz2, jg4, jz3, hoa, rfl⟩; obtain ⟨lt', xn⟩ : ∃ lt, L'.length = lt := ⟨_, rfl⟩; obtain ⟨no, vO⟩ : ∃ no, o.length = no := ⟨_, rfl⟩
    have jy6 : (o.flatMap vG).length = no * 4 := by rw [vh (sz := 4) (fun _ => rfl), vO]
    have k86 : (L'.map fun d => V.d (sD d)).length = lt' * 1 := by rw [length_map, xn, Nat.mul_one]
    rw [xn] at jz2 jg4; rw [vO] at hoa; simp only [xn, vO]
    by_cases vr : i < lp
    ·obtain ⟨p, hp⟩ := zl hlp vr
     rw [j81 hp] at zv; have hbh := jz1 d p.i p.o hdl hdb; have hXB : ceB j (q * 1000000000 + 1000000000) (nxL sts d p) := qo0 ⟨hdl, hdB⟩ jz0; have hXe : bhD sts d p.i p.o = nxL sts d p := rfl; rw [hXe] at hbh; obtain ⟨X, hX⟩ : ∃ X, nxL sts d p = X := ⟨_, rfl⟩; rw [hX] at hbh hXB zv; obtain ⟨pi, po, pw, pt⟩ := p; simp only at hbh zv; obtain ⟨w, hw⟩ : ∃ w, mnL X = w := ⟨_, rfl⟩; rw [hw] at zv
     have hXl := hXB.1; have hlo := je6 X zg; rw [hw] at hlo; clear hX hXe; refine W60 ?_; refine qi [(0, true), (1, true), (2, true), (3, true), (4, true), (5, true), (6, true), (7, true), (8, true), (9, true), (10, true), (11, true), (12, false), (13, false)] (fun i => !([] : List Nat).contains i) 14 zh zh rfl zh ?_; refine wn ?_; refine qm ?_
     refine jZ (post := ?pc125) rfl rfl (q65 (args := [_, _, _, _]) ?hc125 ⟨func58, rfl, rfl, rfl, rfl⟩ rfl rfl rfl rfl ?fc125) ?_
     case hc125 => exact hbh
     case fc125 => exact (by rintro _ _ ⟨rfl, rfl⟩; first | rfl | simp [S.clean, S.put, S.newObj, S.forget, V.has, V.hasL, zV, xg, V.cs, xm, xF, xG, xc, x4, zE, zA])
     rintro _ _ ⟨rfl, rfl⟩; refine zQ ?_; refine jc6 ?_; apply qg
     by_cases hw9 : 1000000000 < w
     ·rw [if_pos hw9] at zv
      rw [← zv] at vf; simp only at vf; rw [if_pos zj] at vf; obtain ⟨rfl, _⟩ := Prod.mk.inj vf; clear zv jz1; refine zR ?_; refine qh (post := ?pc126) rfl (gB (args := ?ac126) (us := [_]) ?hc126 ?qc126 ⟨func59, rfl, rfl, rfl, rfl⟩ rfl rfl rfl ?rc126 rfl) ?_
      case hc126 => exact hlo
      case qc126 => (intro v hv; first | (subst hv; first | trivial | (simp [V.plain]; done)) | (obtain ⟨_, rfl, _⟩ := hv; first | trivial | (simp [V.plain]; done)))
      case rc126 => exact .cons (.own 901 1 j 8 false _ (X.map vp) rfl rfl (by rw [length_map, hXl]) zg (yk rfl)) .nil
      rintro _ rfl -; refine qf0 ?_; refine W11 ?_; exact ⟨[_, _], zU1, zU8, zU0⟩
     rw [if_neg hw9] at zv
     have hle : ∀ x ∈ X, w ≤ x := fun x hx => by rw [← hw]; exact jU5 hx
     refine zR ?_; refine qh (post := ?pc127) rfl (gB (args := ?ac127) (us := [_]) ?hc127 ?qc127 ⟨func59, rfl, rfl, rfl, rfl⟩ rfl rfl rfl ?rc127 rfl) ?_
     case hc127 => exact hlo
     case qc127 => (intro v hv; first | (subst hv; first | trivial | (simp [V.plain]; done)) | (obtain ⟨_, rfl, _⟩ := hv; first | trivial | (simp [V.plain]; done)))
     case rc127 => exact .cons (.own 901 1 j 8 false _ (X.map vp) rfl rfl (by rw [length_map, hXl]) zg (yk rfl)) .nil
     rintro _ rfl -; refine zQ ?_; refine vF ?_
     refine qb (fun s' => ∃ r : Nat, r ≤ j ∧ s' = ⟨231, [(1, .ref 1 0), (2, .ref 2 0), (6, .i j), (9, .own 61 1 lt' false), (10, .ref 10 0), (12, .i q), (11, .i a'), (13, .d (sD d)), (18, .ref 18 0), (19, .d (zU PR)), (20, .i i), (21, .own 901 1 j false), (22, .i (w : Int)), (23, .i r)], [(1, ⟨24, [.i (s : Int), .d (zq sts)], false, 0⟩), (2, ⟨24, [.i 0, .nil], false, 0⟩), (61, ⟨42, L'.map fun d => V.d (sD d), false, 1⟩), (10, ⟨24, [.i 0, .own 902 2 q (decide (q = 0))], false, 0⟩), (902, ⟨35, P.flatMap xT, decide (q = 0), 2⟩), (18, ⟨35, [.i ft, .own 903 4 no (decide (no = 0))], false, 0⟩), (903, ⟨47, o.flatMap vG, decide (no = 0), 4⟩), (901, ⟨3, ((X.take r).map (sbV w) ++ X.drop r).map V.n, false, 1⟩)], []⟩) (fun s' => j - s'.nat 23) ⟨_, ?_, 0, by omega, rfl⟩ ?_
     ·rw [take_zero, drop_zero, map_nil, nil_append]
      exact q8
     clear hlo hbh jz1; rintro s' ⟨r, hr, rfl⟩
     by_cases hrj : r < j
     ·obtain ⟨x, hx⟩ := zl hXl hrj
      have hY := jZ1 (w := w) hx; have xR := jJ1 (w := w) hx; have hsm := jJ2 (w := w) hx; have hYl : r < ((X.take r).map (sbV w) ++ X.drop r).length := (List.getElem?_eq_some_iff.1 hY).1; have hwx := hle x (mem_of_getElem? hx); have hxb := hXB.2 x (mem_of_getElem? hx); generalize (X.take r).map (sbV w) ++ X.drop r = Y at hY xR hsm hYl ⊢
      by_cases hxg : x = big
      ·have hs2 := hsm (by unfold sbV; rw [if_pos hxg]; exact hxg.symm)
       have k87 : ¬ ((x : Int) ≠ 1152921504606846976) := by omega
       clear xR hsm; refine gC ?_; refine ⟨_, ?_, ⟨r + 1, by omega, rfl⟩, ?_⟩
       ·rw [hs2]; exact q8
       exact zM
      have hv : sbV w x = x - w := by unfold sbV; rw [if_neg hxg]
      rw [hv] at xR; have k87 : (x : Int) ≠ 1152921504606846976 := by omega
      clear hsm
      iterate 26 refine Dv ?_
      refine qe rfl rfl (jF1 (((x - w : Nat) : Int)) rfl rfl rfl zg zg) ?_; refine Dv ?_; refine qf rfl (zX (v := x - w) zz rfl rfl rfl rfl rfl rfl rfl rfl zT9) ?_; refine zY ?_; refine ⟨_, ?_, ⟨r + 1, by omega, rfl⟩, ?_⟩
      ·rw [← xR]; exact q8
      exact zM
     obtain rfl : r = j := by omega
     have hZ : (X.take r).map (sbV w) ++ X.drop r = sbL X w := by
      rw [take_of_length_le zg, List.drop_eq_nil_of_le zg, append_nil]; rfl
     rw [hZ]; obtain ⟨hZl, hZB⟩ := qL4 (w := w) hXB; generalize sbL X w = Z at hZ hZl hZB zv ⊢; refine qP9 ?_; refine qk 21 8 (Z.map vp) rfl rfl rfl (by rw [length_map, hZl]) zg (yk rfl) ?_; refine xB ?_; have hf0 := fndL.zero L' Z; clear hZ hXB hXl hle hrj
     refine qb (fun s' => ∃ (x : Nat) (v : Int), x ≤ lt' ∧ fndL L' Z x v ∧ s' = ⟨231, [(1, .ref 1 0), (2, .ref 2 0), (6, .i r), (9, .own 61 1 lt' false), (10, .ref 10 0), (12, .i q), (11, .i a'), (13, .d (sD d)), (18, .ref 18 0), (19, .d (zU PR)), (20, .i i), (21, .d (sD Z)), (22, .i (w : Int)), (24, .i v), (25, .i x)], [(1, ⟨24, [.i (s : Int), .d (zq sts)], false, 0⟩), (2, ⟨24, [.i 0, .nil], false, 0⟩), (61, ⟨42, L'.map fun d => V.d (sD d), false, 1⟩), (10, ⟨24, [.i 0, .own 902 2 q (decide (q = 0))], false, 0⟩), (902, ⟨35, P.flatMap xT, decide (q = 0), 2⟩), (18, ⟨35, [.i ft, .own 903 4 no (decide (no = 0))], false, 0⟩), (903, ⟨47, o.flatMap vG, decide (no = 0), 4⟩)], []⟩) (fun s' => lt' - s'.nat 25) ⟨_, ?_, 0, -1, by omega, hf0, rfl⟩ ?_
     ·exact q8
     clear hf0; rintro s' ⟨x, v, hx, hf, rfl⟩
     by_cases hxl : x < lt'
     ·obtain ⟨y, hy⟩ := zl xn hxl
      obtain ⟨hyl, _⟩ := hBd x y hy; have hsc := qV4 y Z r zg hyl hZl
      by_cases hyz : y = Z
      ·have hf2 := hf.yes (by rw [← hyz]; exact hy)
       rw [decide_eq_true hyz] at hsc; clear hf; refine uy ?_; refine qa hsc ?_; refine qk6 ?_; refine ⟨_, ?_, ⟨x + 1, (x : Int), by omega, hf2, rfl⟩, ?_⟩
       ·exact q8
       exact zM
      have hf2 := hf.no hy hyz; rw [decide_eq_false hyz] at hsc; clear hf; refine uy ?_; refine qa hsc ?_; refine qC1 ?_; refine ⟨_, ?_, ⟨x + 1, v, by omega, hf2, rfl⟩, ?_⟩
      ·exact q8
      exact zM
     obtain rfl : x = lt' := by omega
     rw [← xn] at hf; have hfe := hf.end wC; have um : (lAd L' Z).Nodup := qL2 wC; clear hf
     rcases hfe with ⟨hv0, hix, had⟩ | ⟨y, rfl, hy1, hix, had⟩
     ·rw [had, hix, length_append, xn] at zv
      simp only [length_cons, length_nil, zero_add] at zv; rw [had] at um
      by_cases wR : 400 < a' + 1 ∨ 60 < x + 1
      ·rw [if_pos wR] at zv
       rw [← zv] at vf; simp only at vf; rw [if_pos zj] at vf; obtain ⟨rfl, _⟩ := Prod.mk.inj vf; clear zv
       rcases (show 400 < a' + 1 ∨ (¬ 400 < a' + 1 ∧ 60 < x + 1) by omega) with h | h
       ·skip
        iterate 23 refine Dv ?_
        refine W50 ?_; refine W9 ?_; refine W11 ?_; exact ⟨[_, _], zU1, zU8, zU0⟩
       skip
       iterate 23 refine Dv ?_
       refine W50 ?_; refine W9 ?_; refine W11 ?_; exact ⟨[_, _], zU1, zU8, zU0⟩
      rw [if_neg wR] at zv
      iterate 23 refine Dv ?_
      refine W50 ?_; refine W9 ?_; refine W82 ?_; refine qw rfl rfl rfl (fun _ _ h => h) (xI (vs := [(0, _), (1, _), (2, _), (3, _)]) (zs := [.i 0, .i 0, .i 0, .i 0]) qs0 zO rfl rfl rfl rfl) ?_; refine qm ?_; refine qI rfl rfl (zN (vs := [(0, _)]) (zs := [.i 0, .i 0, .i 0, .i 0]) 221 underlying33 zO rfl rfl zj zj zj rfl rfl rfl rfl zT0 rfl rfl) ?_; refine qO ?_
      refine qo rfl rfl rfl (xK underlying33 zO rfl zj rfl rfl rfl rfl rfl rfl zT5 zT0 rfl rfl rfl rfl rfl rfl rfl zj zg zg rfl) ?_; refine g0 ?_; refine qH rfl rfl rfl rfl (xe underlying35 rfl rfl rfl qo7 zj rfl) ?_; refine jp3 ?_; refine qf1 ?_
      refine ⟨_, ?_, ⟨i + 1, L' ++ [Z], a' + 1, o ++ [⟨pi, po, (w : Int), (x : Int)⟩], by omega, zv, um, fun j' d' hj' => ?_, by rw [length_append, xn]; omega, by rw [length_append, xn]; simp only [length_cons, length_nil]; omega, by omega, by rw [length_append, vO]; simp only [length_cons, length_nil]; omega, rfl⟩, ?_⟩
      ·simp only [flatMap_append, flatMap_cons, flatMap_nil, append_nil, length_append, length_cons, length_nil, zero_add, map_append, map_cons, map_nil, xn, vO]
       exact q8
      ·by_cases vJ : j' < L'.length
       ·grind
       rw [List.getElem?_append_right zg] at hj'
       cases hjj : j' - L'.length with
       | succ z => rw [hjj] at hj'; simp at hj'
       | zero =>
        rw [hjj] at hj'; simp at hj'; subst hj'; refine ⟨hZl, fun u hu => ?_⟩; exact up9 (hZB u hu) zg
      exact zM
     rw [had, hix, xn] at zv; clear um
     by_cases wR : 400 < a' + 1
     ·rw [if_pos (.inl wR)] at zv
      rw [← zv] at vf; simp only at vf; rw [if_pos zj] at vf; obtain ⟨rfl, _⟩ := Prod.mk.inj vf; clear zv
      iterate 33 refine Dv ?_
      refine W11 ?_; exact ⟨[_, _], zU1, zU8, zU0⟩
     rw [if_neg zg] at zv
     iterate 33 refine Dv ?_
     refine W82 ?_; refine qw rfl rfl rfl (fun _ _ h => h) (xI (vs := [(0, _), (1, _), (2, _), (3, _)]) (zs := [.i 0, .i 0, .i 0, .i 0]) qs0 zO rfl rfl rfl rfl) ?_; refine qm ?_; refine qI rfl rfl (zN (vs := [(0, _)]) (zs := [.i 0, .i 0, .i 0, .i 0]) 221 underlying33 zO rfl rfl zj zj zj rfl rfl rfl rfl zT0 rfl rfl) ?_; refine qO ?_
     refine qo rfl rfl rfl (xK underlying33 zO rfl zj rfl rfl rfl rfl rfl rfl zT5 zT0 rfl rfl rfl rfl rfl rfl rfl zj zg zg rfl) ?_; refine g0 ?_; refine qH rfl rfl rfl rfl (xe underlying35 rfl rfl rfl qo7 zj rfl) ?_; refine jp3 ?_; refine qf1 ?_
     refine ⟨_, ?_, ⟨i + 1, L', a' + 1, o ++ [⟨pi, po, (w : Int), (y : Int)⟩], by omega, zv, wC, hBd, by omega, by omega, by omega, by rw [length_append, vO]; simp only [length_cons, length_nil]; omega, rfl⟩, ?_⟩
     ·simp only [flatMap_append, flatMap_cons, flatMap_nil, append_nil, length_append, length_cons, length_nil, zero_add, xn, vO]
      exact q8
     exact zM
    obtain rfl : i = lp := by omega
    rw [List.drop_eq_nil_of_le zg, yC] at zv; rw [← zv] at vf; simp only at vf; rw [if_neg zx] at vf; refine xX ?_; refine qs 18 1 32 (o.map arD) rfl rfl rfl zj rfl rfl (by rw [length_map, vO]) zg (vx (enc := arD) (sz := 4) (l := o) (fun _ => rfl) rfl) ?_; refine zW ?_; refine q9 rfl (zN (vs := [(0, _)]) (zs := [.i 0, .nil]) 227 underlying22 xD rfl rfl zj zj zj rfl rfl rfl rfl zT0 rfl rfl) ?_
    refine W2 ?_; refine W39 ?_; refine zY ?_; refine ⟨μ - 1, _, ?_, ⟨L', a', P ++ [⟨ft, o⟩], by rw [length_append, wu]; simp only [length_cons, length_nil]; omega, ?_, wC, hBd, by rw [length_append, wu, xn]; simp only [length_cons, length_nil]; omega, by omega, jz3, rfl⟩, ?_⟩
    ·simp only [flatMap_append, flatMap_cons, flatMap_nil, append_nil, length_append, length_cons, length_nil, zero_add, wu, xn]
     exact q8
    ·grind
    omega
   rw [qY8 zg] at vf; obtain ⟨rfl, rfl⟩ := Prod.mk.inj vf; rw [hM rfl]; refine q61 ?_; refine qs 10 1 32 (P.map stD) rfl rfl rfl zj rfl rfl (by rw [length_map, wu]) zg (vx (enc := stD) (sz := 2) (l := P) (fun _ => rfl) rfl) ?_; refine zY ?_; exact ⟨[_, _], zU1, .inr ⟨rfl, .inl rfl⟩, zU0⟩
 have hE : ceE m = zn m := by unfold ceE; rw [if_pos h0]
 rw [qd7 h0] at wI; rw [hE]; obtain ⟨e, he⟩ : ∃ e, zn m = e := ⟨_, rfl⟩; rw [he] at wI h0 ⊢; obtain ⟨st, sts⟩ := m; refine qc 231 fun w0 out => ?_; refine W96 ?_; refine qa wI ?_; refine zQ ?_; refine W27 ?_; refine ve ?_; refine W14 ?_; exact ⟨[_, _], zU1, .inl ⟨h0, rfl⟩, zU0⟩
abbrev wi (t : Int × Int) : Value := .agg #[.int .i64 t.1, .int .i64 t.2]
theorem k88 (a1 a2 b1 b2 : Int) (w : World) : (Op.equalIn 10000 147 (.agg #[.int .i64 a1, .int .i64 a2]) (.agg #[.int .i64 b1, .int .i64 b2])).run prog w = .ok (a1 == b1 && a2 == b2) w := by
 simp [go_sem]
 by_cases h1 : a1 = b1 <;> by_cases h2 : a2 = b2 <;> simp [h1, h2]
theorem eqQ (a b : Int × Int) (w : World) : (Op.equal 147 (wi a) (wi b)).run prog w = .ok (decide (a = b)) w := by
 obtain ⟨a1, a2⟩ := a; obtain ⟨b1, b2⟩ := b; refine (k88 a1 a2 b1 b2 w).trans ?_
 congr 1
 rw [Bool.eq_iff_iff]; simp
theorem jU7 (b : Bool) (a : Int × Int) (w : World) : (Instr.checkKey b 10000 147 (wi a)).run prog w = .ok () w := by
 have : ∀ n : Nat, (Instr.checkKey b (n + 2) 147 (wi a)).run prog w = .ok () w := fun n => by
  simp [wi, Instr.checkKey, go_sem]
 exact this 9998
theorem jU8 (a : Int × Int) (w : World) : ∀ (l : List ((Int × Int) × Value)) (i j : Nat), (Instr.findAsking 147 (wi a) (((l.map fun x => (wi x.1, x.2)).zipIdx j).map fun x => ({ key := x.1.1, val := x.1.2, born := x.2 } : MapEntry)) i).run prog w = .ok (xV l a i) w
 | [], i, j => by simp [Instr.findAsking, xV]
 | (k, v) :: l, i, j => by
  have ih := jU8 a w l (i + 1) (j + 1); simp only [map_cons, zipIdx_cons, Instr.findAsking, Sem.run_bind, eqQ, Result.andThen_ok, xV] at ih ⊢
  by_cases e : a = k
  ·subst e; simp
  simp only [e, decide_false, if_false]
  simpa using ih
theorem wV : qD9 prog 147 wi := by
 refine ⟨jU7, fun l a w => ?_, fun a => ?_⟩
 ·have qV7 : ∀ (l : List ((Int × Int) × Value)) (j : Nat), l ≠ [] → ∀ fs, Instr.findNow (.struct fs) (wi a) (((l.map fun x => (wi x.1, x.2)).zipIdx j).map fun x => ({ key := x.1.1, val := x.1.2, born := x.2 } : MapEntry)) 0 = none := by
   intro l j hl fs
   cases l with
   | nil => exact absurd rfl hl
   | cons x l => simp [zipIdx_cons, Instr.findNow, Instr.sameNow]
  simp only [Instr.findKey, Sem.run_bind, run_underlying underlying147, Result.andThen_ok, zB, List.toList_toArray]
  by_cases hl : l = []
  ·subst hl; simp [Instr.findNow, xV]
  rw [qV7 l 0 hl]; exact jU8 a w l 0 0
 have : ∀ n : Nat, Instr.sameBits (n + 2) (wi a) (wi a) = true := fun n => by simp [Instr.sameBits]
 exact this 9998
theorem wW {w : World} {q : Nat → Prop} {g : Nat → Nat × Nat} {v : Value} (h : VRep w q g (.agg [.i a, .i b]) v) : v = wi (a, b) := by
 cases h with
 | agg _ cs hl h =>
  match cs, hl with
  | [x, y], _ =>
   rw [VRep.p_eq (h 0 _ _ rfl rfl), VRep.p_eq (h 1 _ _ rfl rfl)]
theorem wA (l : List (Nat × Nat)) : D.mpsR (l.map ptD) = false := gJ _ (fun _ => rfl) l
theorem jC7 {L : RcL} {k : Int × Int} {lj : List (Int × Int)} (h : L[j]? = some (k, lj)) : (mmr wi L)[j]? = some (wi k, zu vI lj) := by
 rw [List.getElem?_map, h]; rfl
theorem jg5 (st : Int) (sts : List St) (l : List (Nat × Nat)) (hl : l.length ≤ 1000) (hb : ∀ x ∈ l, je9 x ∧ x.1 < sts.length) (xZ : sts.length ≤ 60) (hx4 : ∀ x ∈ sts, x.arcs.length ≤ 400) (hw : ∀ x ∈ sts, ∀ a ∈ x.arcs, 0 ≤ a.w ∧ a.w ≤ 1000000000) : Fn prog 96 [.d (uk l), mV ⟨st, sts⟩] (fun v => v = .d (.mm (mmr wi (rcP sts l)))) := by
 obtain ⟨n, hn⟩ : ∃ n, l.length = n := ⟨_, rfl⟩; obtain ⟨ns, hns⟩ : ∃ ns, sts.length = ns := ⟨_, rfl⟩; rw [hn] at hl; rw [hns] at xZ hb; refine qc 77 fun w0 out => ?_; refine qB8 ?_; refine xd ?_; refine q9 rfl (jj8 41 rfl rfl rfl) ?_; refine xX ?_
 refine qb (fun s' => ∃ (k : Nat) (L : RcL), k ≤ n ∧ (l.drop k).foldl (rcS sts) L = rcP sts l ∧ s' = ⟨77, [(3, .ref 3 0), (5, .mm 41 w0.heap.size (mmr wi L, (mmr wi L).length, none)), (14, .d (uk l)), (15, .i n), (16, .i k)], [(3, ⟨24, [.i st, .d (zq sts)], false, 0⟩)], []⟩) (fun s' => n - s'.nat 16) ⟨_, ?_, 0, [], by omega, rfl, rfl⟩ ?_
 ·exact q8
 rintro s' ⟨k, L, hk, hR, rfl⟩
 by_cases zk : k < n
 ·obtain ⟨x, hx⟩ := zl hn zk
  obtain ⟨⟨b1, b2⟩, b3⟩ := hb x (mem_of_getElem? hx); obtain ⟨y, hy⟩ := zl hns b3; have hy4 := hx4 y (mem_of_getElem? hy); have hyw := hw y (mem_of_getElem? hy); have hsA : stA sts x.1 = y.arcs := wo hy; have hdr := List.getElem?_eq_some_iff.1 hx; rw [drop_eq_getElem_cons hdr.1, hdr.2, List.foldl_cons] at hR; obtain ⟨p, q⟩ := x; obtain ⟨f, A⟩ := y; simp only at b1 b2 b3 hy hy4 hyw hsA
  have hS : rcS sts L (p, q) = A.foldl (fun L a => rcA L q a) L := by unfold rcS; rw [hsA]
  rw [hS] at hR; obtain ⟨la, xr⟩ : ∃ la, A.length = la := ⟨_, rfl⟩; rw [xr] at hy4
  obtain ⟨L9, hL9⟩ : ∃ L9, A.foldl (fun L a => rcA L (q : Int) a) L = L9 := ⟨_, rfl⟩
  rw [hL9] at hR; clear hS hsA hdr; refine W77 ?_; refine vF ?_
  refine qb (fun s' => ∃ (i : Nat) (L' : RcL), i ≤ la ∧ (A.drop i).foldl (fun L a => rcA L (q : Int) a) L' = L9 ∧ s' = ⟨77, [(3, .ref 3 0), (5, .mm 41 w0.heap.size (mmr wi L', (mmr wi L').length, none)), (14, .d (uk l)), (15, .i n), (16, .i k), (7, .ref 7 0), (26, .d (zU A)), (27, .i la), (28, .i i)], [(3, ⟨24, [.i st, .d (zq sts)], false, 0⟩), (7, ⟨137, [.i (p : Int), .i (q : Int)], false, 0⟩)], []⟩) (fun s' => la - s'.nat 28) ⟨_, ?_, 0, L, by omega, hL9, rfl⟩ ?_
  ·exact q8
  clear hL9; rintro s' ⟨i, L', hi, hL9, rfl⟩
  by_cases vr : i < la
  ·obtain ⟨a, ha⟩ := zl xr vr
   have k89 := hyw a (mem_of_getElem? ha); have hda := List.getElem?_eq_some_iff.1 ha; rw [drop_eq_getElem_cons hda.1, hda.2, List.foldl_cons] at hL9; clear hda; obtain ⟨ai, ao, aw, at'⟩ := a; simp only at k89
   cases h1 : xV L' (ai, ao) 0 with
   | none =>
    have hs := j84 (c := (q : Int)) (a := ⟨ai, ao, aw, at'⟩) h1; have h2 := qL5 h1; rw [hs] at hL9; have hg : zK ([] : List (Int × Int)) at' = none := rfl; refine W86 ?_; refine x8 ?_; refine W52 ?_; refine zY ?_; refine AL.rd rfl rfl (qt9 wV underlying143 yr rfl rfl (fun g a w hs => wW (hs.ev rfl)) zm) ?_; refine qe rfl rfl (jF6 underlying152 rfl rfl rfl) ?_; refine zC ?_
    refine q9 rfl (jd8 5 41 w0.heap.size (wi (ai, ao)) rfl rfl rfl rfl) ?_; refine qf rfl (qE2 wV underlying143 rfl rfl rfl (fun g a w hs => wW (hs.ev rfl)) rfl zm rfl (by simp [S.put, S.newObj, xg, V.cs, V.mpsL, V.mps, D.mps, D.mpsL, D.mpsR, vM, vZ, wA, V.one]) rfl) ?_
    simp only [S.put, map_cons, map_nil, List.take_succ_cons, take_zero, drop_succ_cons, drop_zero, length_cons, length_nil, zero_add, reduceAdd, qy8, qh0, qh1, q91, q92, q93, q94, q95, q96, qy9, D.mps, vM, vZ, wA]; refine Dv ?_; apply qg; clear h1 hs; have h3 := uf h2; generalize L' ++ [((ai, ao), [])] = L1 at h2 h3 hL9 ⊢; generalize L'.length = j at h2 h3 hL9; have h4 := jC7 h3; refine W42 ?_
    refine AD1.rd rfl rfl rfl (fun _ _ h => h) (vU wV underlying143 yr rfl rfl (fun g a w hs => wW (hs.ev rfl)) zm) ?_; refine zR ?_; refine AD1.rd rfl rfl rfl (fun _ _ h => h) (q73 underlying3 underlying152 zz rfl rfl zm rfl zm) ?_; refine zC ?_; refine W16 ?_; refine W63 ?_; refine zR ?_
    refine AD1.rd rfl rfl rfl (fun _ _ h => h) (vU wV underlying143 yr rfl rfl (fun g a w hs => wW (hs.ev rfl)) zm) ?_; refine x8 ?_; refine W85 ?_; refine qo rfl rfl rfl (bW underlying3 underlying152 rfl rfl rfl zm rfl rfl rfl (by simp [S.put, S.newObj, xg, V.cs, V.mpsL, V.mps, D.mps, D.mpsL, D.mpsR, vM, vZ, wA, V.one]) rfl) ?_
    simp only [S.put, map_cons, map_nil, List.take_succ_cons, take_zero, drop_succ_cons, drop_zero, length_cons, length_nil, zero_add, reduceAdd, qy8, qh0, qh1, q91, q92, q93, q94, q95, q96, qy9, D.mps, vM, vZ, wA]; refine qs5 ?_; refine ⟨_, ?_, ⟨i + 1, _, by omega, hL9, rfl⟩, ?_⟩
    ·exact q8
    exact zM
   | some jl =>
    obtain ⟨j, lj⟩ := jl; have h3 := uf h1; have h4 := jC7 h3
    cases h5 : zK lj at' with
    | none =>
     rw [qG2 h1 (.inl h5)] at hL9; refine W86 ?_; refine x8 ?_; refine W52 ?_; refine zY ?_; refine AL.rd rfl rfl (vU wV underlying143 yr rfl rfl (fun g a w hs => wW (hs.ev rfl)) zm) ?_; refine jq6 ?_; refine W42 ?_; refine AD1.rd rfl rfl rfl (fun _ _ h => h) (vU wV underlying143 yr rfl rfl (fun g a w hs => wW (hs.ev rfl)) zm) ?_; refine zR ?_
     refine AD1.rd rfl rfl rfl (fun _ _ h => h) (q73 underlying3 underlying152 zz rfl rfl zm rfl zm) ?_; refine zC ?_; refine W16 ?_; refine W63 ?_; refine zR ?_; refine AD1.rd rfl rfl rfl (fun _ _ h => h) (vU wV underlying143 yr rfl rfl (fun g a w hs => wW (hs.ev rfl)) zm) ?_; refine x8 ?_; refine W85 ?_
     refine qo rfl rfl rfl (bW underlying3 underlying152 rfl rfl rfl zm rfl rfl rfl (by simp [S.put, S.newObj, xg, V.cs, V.mpsL, V.mps, D.mps, D.mpsL, D.mpsR, vM, vZ, wA, V.one]) rfl) ?_; simp only [S.put, map_cons, map_nil, List.take_succ_cons, take_zero, drop_succ_cons, drop_zero, length_cons, length_nil, zero_add, reduceAdd, qy8, qh0, qh1, q91, q92, q93, q94, q95, q96, qy9, D.mps, vM, vZ, wA]
     refine qs5 ?_; refine ⟨_, ?_, ⟨i + 1, _, by omega, hL9, rfl⟩, ?_⟩
     ·exact q8
     exact zM
    | some w =>
     by_cases c3 : (q : Int) + aw < w
     ·rw [qG2 h1 (.inr ⟨w, h5, c3⟩)] at hL9
      refine W86 ?_; refine x8 ?_; refine W52 ?_; refine zY ?_; refine AL.rd rfl rfl (vU wV underlying143 yr rfl rfl (fun g a w hs => wW (hs.ev rfl)) zm) ?_; refine jq6 ?_; refine W42 ?_; refine AD1.rd rfl rfl rfl (fun _ _ h => h) (vU wV underlying143 yr rfl rfl (fun g a w hs => wW (hs.ev rfl)) zm) ?_; refine zR ?_
      refine AD1.rd rfl rfl rfl (fun _ _ h => h) (q90 underlying3 underlying152 zz rfl rfl zm rfl zm) ?_; refine zC ?_; refine W16 ?_; refine W63 ?_; refine zR ?_; refine AD1.rd rfl rfl rfl (fun _ _ h => h) (vU wV underlying143 yr rfl rfl (fun g a w hs => wW (hs.ev rfl)) zm) ?_; refine x8 ?_; refine W85 ?_
      refine qo rfl rfl rfl (bW underlying3 underlying152 rfl rfl rfl zm rfl rfl rfl (by simp [S.put, S.newObj, xg, V.cs, V.mpsL, V.mps, D.mps, D.mpsL, D.mpsR, vM, vZ, wA, V.one]) rfl) ?_; simp only [S.put, map_cons, map_nil, List.take_succ_cons, take_zero, drop_succ_cons, drop_zero, length_cons, length_nil, zero_add, reduceAdd, qy8, qh0, qh1, q91, q92, q93, q94, q95, q96, qy9, D.mps, vM, vZ, wA]
      refine qs5 ?_; refine ⟨_, ?_, ⟨i + 1, _, by omega, hL9, rfl⟩, ?_⟩
      ·exact q8
      exact zM
     rw [j85 h1 h5 c3] at hL9; refine W86 ?_; refine x8 ?_; refine W52 ?_; refine zY ?_; refine AL.rd rfl rfl (vU wV underlying143 yr rfl rfl (fun g a w hs => wW (hs.ev rfl)) zm) ?_; refine jq6 ?_; refine W42 ?_; refine AD1.rd rfl rfl rfl (fun _ _ h => h) (vU wV underlying143 yr rfl rfl (fun g a w hs => wW (hs.ev rfl)) zm) ?_; refine zR ?_
     refine AD1.rd rfl rfl rfl (fun _ _ h => h) (q90 underlying3 underlying152 zz rfl rfl zm rfl zm) ?_; refine zC ?_; refine W16 ?_; refine gi ?_; refine ⟨_, ?_, ⟨i + 1, _, by omega, hL9, rfl⟩, ?_⟩
     ·exact q8
     exact zM
  rw [List.drop_of_length_le zg] at hL9; simp only [List.foldl_nil] at hL9; subst hL9; refine ve ?_; refine ⟨_, ?_, ⟨k + 1, L', by omega, hR, rfl⟩, ?_⟩
  ·exact q8
  exact zM
 rw [List.drop_of_length_le zg] at hR; simp only [List.foldl_nil] at hR; rw [← hR]; refine W75 ?_; refine kh 5 rfl rfl rfl ?_; refine zC ?_; exact ⟨[_], ⟨rfl, trivial⟩, rfl, zU0⟩
end Go.Proofs.YthiknkcigcglkaaGreatDoor
