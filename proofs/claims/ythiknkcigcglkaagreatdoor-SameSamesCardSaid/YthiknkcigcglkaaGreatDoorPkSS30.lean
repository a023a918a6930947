/- Part 30 of what the law SameSames rests on. -/
import Derived.Test.YthiknkcigcglkaaGreatDoorPkSS28
namespace Go.Proofs.YthiknkcigcglkaaGreatDoor
open Go.RowKit
open Go.Proofs.Tryz
open List (append_nil drop_zero flatMap_append flatMap_cons flatMap_nil length_append length_cons length_map length_nil map_append map_cons map_nil mem_of_getElem? mem_singleton)
open Nat (zero_add)
set_option linter.unusedSimpArgs false
set_option linter.unusedVariables false
set_option maxRecDepth 100000
set_option maxHeartbeats 8000000
theorem FnP.wkS {Pre : World → Prop} {P : Program} {f : FuncId} {args : List V} {post post' : V → Prop} (h : FnP Pre P f args post) (hp : ∀ v, post v → v.pure → ∃ v', post' v' ∧ v'.pure ∧ ∀ w q g x, VRep w q g v x → VRep w q g v' x) : FnP Pre P f args post' := fun w out g xs h0 h1 h2 =>
 (h w out g xs h0 h1 h2).mono fun e w' ⟨v, x, k1, k2, k3, k4, k5⟩ => let ⟨v', j1, j2, j3⟩ := hp v k2 k3; ⟨v', x, k1, j1, j2, j3 _ _ _ _ k4, k5⟩
theorem jm8 (m : zr) : FnP uj prog 7 [mV m] (fun v => qD5 (leE m) (leM m) (leV m) v) := by
 have wT := j66 m
 by_cases h0 : zn m = 0
 ·rw [qd6 h0, h0] at wT
  cases xA : bFl m.states with
  | false =>
   have hE : leE m = 7 := by unfold leE; rw [if_neg (by simp [h0]), if_pos xA]
   rw [hE]; rw [xA] at wT; clear hE h0 xA; obtain ⟨st, sts⟩ := m; refine qx 144 fun w0 out wK => ?_; refine W64 ?_; refine qa wT ?_; refine zQ ?_; refine W18 ?_; refine gi ?_; refine W14 ?_; exact ⟨[_, _, _], zU3, zU8, zU0⟩
  | true =>
   cases hdi : (bDi m.states && bFl m.states) with
   | false =>
    have hE : leE m = 8 := by unfold leE; rw [if_neg (by simp [h0]), if_neg (by simp [xA]), if_pos hdi]
    rw [hE]; rw [hdi, xA] at wT; clear hE h0 hdi xA; obtain ⟨st, sts⟩ := m; refine qx 144 fun w0 out wK => ?_; refine W64 ?_; refine qa wT ?_; refine zQ ?_; refine W18 ?_
    iterate 26 refine Dv ?_
    refine W14 ?_; exact ⟨[_, _, _], zU3, zU8, zU0⟩
   | true =>
    have hE : leE m = w9 m := by unfold leE; rw [if_neg (by simp [h0]), if_neg (by simp [xA]), if_neg (by simp [hdi])]
    have qi9 := qV6 m; rw [hdi, xA] at wT
    by_cases hpe : w9 m = 0
    ·have hE0 : leE m = 0 := by rw [hE, hpe]
     have hpg := qL0 hpe; have uU := qK8 (vT m); obtain ⟨s1, s2, s3⟩ := qX8 hpg; obtain ⟨z60, y1, zst, y2⟩ := xj hpg; clear y1 y2; rw [hpg] at uU
     have gw : Fn prog 15 [mV m] (fun v => v = .tup [mV (vT m), .i (ue m), .i 0]) := by have := jG6 m; rw [hpe] at this; exact this
     have hM : leM m = if (vT m).start < 0 then y8 inO (vT m) else ⟨0, qv0 (y8 inO (vT m)).states (vT m).start.toNat⟩ := by unfold leM; rw [if_pos hE0]
     have hV : leV m = if (vT m).start < 0 then 0 else ue m := by unfold leV; rw [if_pos hE0]
     rw [hE0, hM, hV]; obtain ⟨PM, hPM⟩ : ∃ PM, vT m = PM := ⟨_, rfl⟩; obtain ⟨PV, hPV⟩ : ∃ PV, ue m = PV := ⟨_, rfl⟩; obtain ⟨S, hS⟩ : ∃ S, y8 inO PM = S := ⟨_, rfl⟩; rw [hPM] at uU s1 s2 s3 z60 zst gw ⊢; rw [hPV] at gw ⊢; rw [hS] at uU s1 s2 s3 ⊢; rw [← s1]; rw [← s1, ← s2] at zst; rw [← s2] at z60 s3; clear hE hE0 hM hV hpg qi9 hpe hdi xA h0 hPM hPV hS s1 s2; obtain ⟨st, sts⟩ := m
     obtain ⟨pst, psts⟩ := PM; obtain ⟨s0, ss⟩ := S; simp only at uU s3 z60 zst ⊢
     by_cases y7 : s0 < 0
     ·rw [if_pos y7, if_pos y7]
      refine qx 144 fun w0 out wK => ?_; refine W64 ?_; refine qa wT ?_; refine zQ ?_; refine W18 ?_; refine bK ?_; refine qa gw ?_; refine W54 ?_; refine xS ?_; refine qa uU ?_; refine jc0 ?_; refine uy ?_; exact ⟨[_, _, _], zU3, .inr ⟨rfl, rfl⟩, zU0⟩
     rw [if_neg y7, if_neg y7]
     obtain ⟨s, rfl⟩ := Int.eq_ofNat_of_zero_le (show 0 ≤ s0 by omega)
     obtain ⟨n, hn⟩ : ∃ n, ss.length = n := ⟨_, rfl⟩
     have qg9 : tin ss := fun x hx a ha => by
      have h1 := (s3 x hx).2.2 a ha; simp only [xl, decide_eq_true_eq] at h1; omega
     have jz4 := jf9 (s : Int) ss z60 zg (fun x hx => (s3 x hx).1) (fun x hx => ⟨(s3 x hx).2.1, (s3 x hx).2.2⟩)
     have jg6 := fun (cl : List Nat) => jT5 (cl := cl) (st := s) qg9 zg
     simp only [Int.toNat_natCast]; obtain ⟨R, hR⟩ : ∃ R, qv0 ss s = R := ⟨_, rfl⟩; rw [hR] at jg6 ⊢; rw [hn] at z60 zst jz4 jg6 s3; refine qx 144 fun w0 out wK => ?_; refine W64 ?_; refine qa wT ?_; refine zQ ?_; refine W18 ?_; refine bK ?_; refine qa gw ?_; refine W54 ?_; refine xS ?_; refine qa uU ?_; refine jc0 ?_; refine xS ?_
     refine qh (post := ?pc204) rfl (yL (args := [_]) (yM _ _ _ _) zm ?hc204 ⟨func17, rfl, rfl, rfl, rfl⟩ rfl rfl rfl rfl) ?_
     case hc204 => exact jz4
     rintro _ ⟨cl, mm, rfl, xM, hcm, hmn, qj0⟩ -; refine zQ ?_; refine W75 ?_; have hcs : cl[s]? = some (clG cl s) := qq1 xM zg; have hc0 := hcm _ (mem_of_getElem? hcs); have hn1 := jx5 cl mm s; have hd1 := qY4 cl s; have hbr := jg6 cl qj0; obtain ⟨c0, jU9⟩ : ∃ c0, clG cl s = c0 := ⟨_, rfl⟩; rw [jU9] at hcs hc0 hn1; have qU7 := jj6 mm zg zg
     have hrl : List.replicate mm (V.i (-1)) = (List.replicate mm (-1 : Int)).map V.i := by simp
     have hrn : c0 < (List.replicate mm (-1 : Int)).length := by simp; exact hc0
     refine Dv ?_; refine q9 rfl (zN (vs := [(0, _)]) (zs := [.i 0]) 65 underlying42 zz rfl rfl zj zj zj rfl rfl rfl rfl rfl rfl rfl) ?_; refine jG 65 8 (([-1] : List Int).map fun x : Int => [D.p (.int .i64 x)]) rfl rfl rfl rfl zj (yk (f := fun x : Int => D.p (.int .i64 x)) rfl) ?_; refine Dv ?_
     refine j4 (post := ?pc205) rfl (q65 (args := [_, _]) ?hc205 ⟨func18, rfl, rfl, rfl, rfl⟩ rfl rfl rfl rfl ?fc205) ?_
     case hc205 => exact qU7
     case fc205 => exact (by rintro _ _ ⟨rfl, rfl⟩; first | rfl | simp [S.clean, S.put, S.newObj, S.forget, V.has, V.hasL, zV, xg, V.cs, xm, xF, xG, xc, x4, zE, zA])
     rintro _ _ ⟨rfl, rfl⟩; refine zQ ?_; refine W31 ?_; rw [hrl]; refine xB ?_; refine qf rfl (zX (v := (0 : Int)) zz rfl rfl rfl rfl rfl rfl rfl rfl zT9) ?_; refine zW ?_; refine q9 rfl (zN (vs := [(0, _)]) (zs := [.i 0]) 77 underlying42 zz rfl rfl zj zj zj rfl rfl rfl rfl zT0 rfl rfl) ?_; refine xd ?_; refine q9 rfl (zp (l := [.i 0, .nil]) 15 xN rfl zT0 rfl rfl) ?_; refine xd ?_
     have jz5 : ((List.replicate mm (-1 : Int)).set c0 0).length = mm := by simp
     generalize (List.replicate mm (-1 : Int)).set c0 0 = num0 at hn1 jz5 ⊢; refine qq 15 1 902 2 35 rfl rfl rfl (by simp [S.clean, V.has, V.hasL, V.cs, xg, xm, xc, zE]) ?_; clear jz4 jg6 qj0 hrl hrn qU7 hcs hc0
     refine qF (fun μ s' => ∃ (l : List Nat) (num : List Int) (P : List St), n - P.length ≤ μ ∧ gG ss cl (n - P.length) l P = R ∧ bN cl l ∧ ql0 cl l num ∧ num.length = mm ∧ (∀ q ∈ l, q < n) ∧ P.length ≤ l.length ∧ s' = ⟨144, [(2, .ref 2 0), (8, .i PV), (9, .ref 9 0), (11, .d (.sl 1 8 (cl.map vp))), (13, .own 901 1 mm false), (14, .own 77 1 l.length false), (15, .ref 15 0)], [(2, ⟨24, [.i 0, .nil], false, 0⟩), (9, ⟨24, [.i (s : Int), .d (zq ss)], false, 0⟩), (901, ⟨3, num.map V.i, false, 1⟩), (77, ⟨3, l.map V.n, false, 1⟩), (15, ⟨24, [.i 0, .own 902 2 P.length (decide (P.length = 0))], false, 0⟩), (902, ⟨35, P.flatMap xT, decide (P.length = 0), 2⟩)], []⟩) ⟨n, _, ?_, [s], num0, [], by simp, by simpa using hbr, hd1, hn1, jz5, fun q hq => by rw [mem_singleton] at hq; omega, by simp, rfl⟩ ?_
     ·exact q8
     clear hbr hd1 hn1 jz5 jU9; rintro μ s' ⟨l, num, P, hμ, hbr, hd, hnI, hnl, wB, wy, rfl⟩; obtain ⟨k, wu⟩ : ∃ k, P.length = k := ⟨_, rfl⟩; obtain ⟨lt, zk⟩ : ∃ k, l.length = k := ⟨_, rfl⟩; have hlm := qq2 hd wB xM hcm
     have qZ3 : (P.flatMap xT).length = k * 2 := by rw [vh (sz := 2) (fun _ => rfl), wu]
     rw [zk] at hlm; rw [wu, zk] at wy; rw [wu] at hμ hbr; simp only [wu, zk]
     by_cases hkl : k < lt
     ·obtain ⟨q, hq⟩ := zl zk hkl
      have hqn := wB q (mem_of_getElem? hq); obtain ⟨x, hx⟩ := zl hn hqn
      rw [show n - k = (n - k - 1) + 1 by omega, qL1 (by rw [wu]; exact hq) hx] at hbr
      obtain ⟨hx4, hxf, hxa⟩ := s3 x (mem_of_getElem? hx); obtain ⟨fin, A⟩ := x; simp only at hx4 hxa hbr; obtain ⟨la, xr⟩ : ∃ la, A.length = la := ⟨_, rfl⟩; rw [xr] at hx4; refine wn ?_; apply qg
      refine qi [(0, true), (1, true), (2, true), (3, true), (4, true), (5, true), (6, true), (7, true), (8, true), (9, true), (10, false), (11, false)] (fun i => !([11] : List Nat).contains i) 12 zh zh rfl zh ?_; refine ve ?_; refine qm ?_; refine qI rfl rfl (zp (l := [.i 0, .nil]) 16 xD rfl zT0 rfl rfl) ?_; refine jp8 ?_; refine W10 ?_; refine jp5 ?_
      refine q9 rfl (zp (l := [.i 0, .nil]) 17 xD rfl zT0 rfl rfl) ?_; refine q34 ?_; refine qq 17 1 903 4 47 rfl rfl rfl (by simp [S.clean, V.has, V.hasL, V.cs, xg, xm, xc, zE]) ?_; refine x8 ?_; have qZ5 : wQ cl l (A.drop 0) [] = wQ cl l A [] := by rw [drop_zero]
      refine qb (fun s' => ∃ (i : Nat) (l' : List Nat) (num' : List Int) (o : List Ar), i ≤ la ∧ wQ cl l' (A.drop i) o = wQ cl l A [] ∧ bN cl l' ∧ ql0 cl l' num' ∧ num'.length = mm ∧ (∀ q ∈ l', q < n) ∧ k < l'.length ∧ o.length = i ∧ s' = ⟨144, [(2, .ref 2 0), (8, .i PV), (9, .ref 9 0), (11, .d (.sl 1 8 (cl.map vp))), (13, .own 901 1 mm false), (14, .own 77 1 l'.length false), (15, .ref 15 0), (17, .ref 17 0), (98, .d (zU A)), (99, .i la), (100, .i i)], [(2, ⟨24, [.i 0, .nil], false, 0⟩), (9, ⟨24, [.i (s : Int), .d (zq ss)], false, 0⟩), (901, ⟨3, num'.map V.i, false, 1⟩), (77, ⟨3, l'.map V.n, false, 1⟩), (15, ⟨24, [.i 0, .own 902 2 k (decide (k = 0))], false, 0⟩), (902, ⟨35, P.flatMap xT, decide (k = 0), 2⟩), (17, ⟨35, [.i fin, .own 903 4 o.length (decide (o.length = 0))], false, 0⟩), (903, ⟨47, o.flatMap vG, decide (o.length = 0), 4⟩)], []⟩) (fun s' => la - s'.nat 100) ⟨_, ?_, 0, l, num, [], by omega, qZ5, hd, hnI, hnl, wB, by omega, rfl, rfl⟩ ?_
      ·rw [zk]
       exact q8
      clear qZ5 hd hnI hnl wB; rintro s' ⟨i, l', num', o, hi, zv, hd, hnI, hnl, wB, jy4, ho, rfl⟩; obtain ⟨lt', xn⟩ : ∃ k, l'.length = k := ⟨_, rfl⟩; have jy5 := qq2 hd wB xM hcm; rw [xn] at jy5 jy4
      have jy6 : (o.flatMap vG).length = i * 4 := by rw [vh (sz := 4) (fun _ => rfl), ho]
      have k85 : (l'.map V.n).length = lt' * 1 := by rw [length_map, xn, Nat.mul_one]
      simp only [xn, ho]
      by_cases vr : i < la
      ·obtain ⟨a, ha⟩ := zl xr vr
       have h3 := hxa a (mem_of_getElem? ha); simp only [xl, decide_eq_true_eq] at h3; rw [qY3 ha] at zv; obtain ⟨ai, ao, aw, at'⟩ := a; simp only at h3; obtain ⟨p, rfl⟩ := Int.eq_ofNat_of_zero_le h3.2.2.2.1; have wa : p < n := by omega
       have hcp := qq1 xM wa; have jV0 := hcm _ (mem_of_getElem? hcp); obtain ⟨cp, jz6⟩ : ∃ cp, clG cl p = cp := ⟨_, rfl⟩; rw [jz6] at hcp jV0; obtain ⟨v, hv⟩ := zl hnl jV0; have jV1 : cp < num'.length := by omega
       have hv2 : num'[clG cl p]? = some v := by rw [jz6]; exact hv
       by_cases hv0 : v < 0
       ·have vY := jr7 hnI hv2 hv0
        obtain ⟨t1, t2⟩ := qY5 (a := ⟨ai, ao, aw, (p : Int)⟩) zx vY; have hd2 := qQ9 hd vY; have hn2 := qR0 hnI vY; rw [t1, t2, xn] at zv; rw [jz6, xn] at hn2; have wJ : (num'.set cp (lt' : Int))[cp]? = some (lt' : Int) := List.getElem?_set_self jV1; have hsl : cp < (num'.set cp (lt' : Int)).length := by rw [List.length_set]; exact jV1
        clear hd hnI vY t1 t2 hv2; refine jO1 ?_
        iterate 25 refine Dv ?_
        refine qf rfl (zX (v := (lt' : Int)) zz rfl rfl rfl rfl rfl rfl rfl rfl zT9) ?_; refine zC ?_; refine q9 rfl (zN (vs := [(0, _)]) (zs := [.i 0]) 122 underlying42 zz rfl rfl zj zj zj rfl rfl rfl rfl zT0 rfl rfl) ?_; refine W4 ?_; refine xB ?_; refine q32 ?_; refine jL7 ?_; refine W0 ?_; refine W34 ?_; refine zC ?_
        refine ⟨_, ?_, ⟨i + 1, l' ++ [p], num'.set cp (lt' : Int), o ++ [⟨ai, ao, aw, (lt' : Int)⟩], by omega, zv, hd2, hn2, by rw [List.length_set]; exact hnl, fun q hq => ?_, by rw [length_append, xn]; omega, by simp [ho], rfl⟩, ?_⟩
        ·simp only [flatMap_append, flatMap_cons, flatMap_nil, append_nil, length_append, length_cons, length_nil, zero_add, map_append, map_cons, map_nil, xn, ho]
         exact q8
        ·rcases List.mem_append.1 hq with h | h
         ·exact wB q h
         rw [mem_singleton] at h; omega
        exact zM
       obtain ⟨j, rfl⟩ := Int.eq_ofNat_of_zero_le (show 0 ≤ v by omega)
       obtain ⟨k1, k2⟩ := jr6 hnI hd hv2 hv0; simp only [Int.toNat_natCast] at k1 k2; obtain ⟨t1, t2⟩ := qY6 (a := ⟨ai, ao, aw, (p : Int)⟩) zx k1 k2; rw [t1, t2] at zv; clear k1 k2 t1 t2 hv2; refine jO1 ?_
       iterate 26 refine Dv ?_
       refine q32 ?_; refine jL7 ?_; refine W0 ?_; refine W34 ?_; refine zC ?_; refine ⟨_, ?_, ⟨i + 1, l', num', o ++ [⟨ai, ao, aw, (j : Int)⟩], by omega, zv, hd, hnI, hnl, wB, by omega, by simp [ho], rfl⟩, ?_⟩
       ·simp only [flatMap_append, flatMap_cons, flatMap_nil, append_nil, length_append, length_cons, length_nil, zero_add, xn, ho]
        exact q8
       exact zM
      obtain rfl : i = la := by omega
      rw [List.drop_eq_nil_of_le zg, wQ] at zv; rw [← zv] at hbr; simp only at hbr; refine zY ?_; refine qs 17 1 32 (o.map arD) rfl rfl rfl zj rfl rfl (by rw [length_map, ho]) zg (vx (enc := arD) (sz := 4) (l := o) (fun _ => rfl) rfl) ?_; refine zW ?_; refine q9 rfl (zN (vs := [(0, _)]) (zs := [.i 0, .nil]) 139 underlying22 xD rfl rfl zj zj zj rfl rfl rfl rfl zT0 rfl rfl) ?_; refine W2 ?_
      refine W39 ?_; refine Dv ?_; refine ⟨μ - 1, _, ?_, ⟨l', num', P ++ [⟨fin, o⟩], by rw [length_append, wu]; simp only [length_cons, length_nil]; omega, ?_, hd, hnI, hnl, wB, by rw [length_append, wu, xn]; simp only [length_cons, length_nil]; omega, rfl⟩, ?_⟩
      ·simp only [flatMap_append, flatMap_cons, flatMap_nil, append_nil, length_append, length_cons, length_nil, zero_add, wu, xn]
       exact q8
      ·rw [length_append, length_cons, length_nil, wu, show n - (k + (0 + 1)) = n - k - 1 by omega]
       exact hbr
      omega
     rw [qY2 zg] at hbr; subst hbr; refine W60 ?_; refine qs 15 1 32 (P.map stD) rfl rfl rfl zj rfl rfl (by rw [length_map, wu]) zg (vx (enc := stD) (sz := 2) (l := P) (fun _ => rfl) rfl) ?_; refine xB ?_; exact ⟨[_, _, _], zU3, .inr ⟨rfl, rfl⟩, zU0⟩
    have qe0 := qi9.mono fun v hv => show v = .tup [.agg [.i 0, .nil], .i 0, .i (w9 m)] by
     rcases hv with ⟨_, hv⟩ | ⟨h1, _⟩
     ·exact hv
     exact absurd h1 hpe
    rw [hE]; obtain ⟨e, he⟩ : ∃ e, w9 m = e := ⟨_, rfl⟩; rw [he] at hpe qe0 ⊢; clear hE h0 hdi xA qi9 he; obtain ⟨st, sts⟩ := m; refine qx 144 fun w0 out wK => ?_; refine W64 ?_; refine qa wT ?_; refine zQ ?_; refine W18 ?_; refine bK ?_; refine qa qe0 ?_; refine W54 ?_; refine xu ?_; refine W24 ?_; exact ⟨[_, _, _], zU3, .inl ⟨hpe, rfl⟩, zU0⟩
 have hE : leE m = zn m := by unfold leE; rw [if_pos h0]
 rw [qd7 h0] at wT; rw [hE]; obtain ⟨e, he⟩ : ∃ e, zn m = e := ⟨_, rfl⟩; rw [he] at wT h0 ⊢; obtain ⟨st, sts⟩ := m; refine qx 144 fun w0 out wK => ?_; refine W64 ?_; refine qa wT ?_; refine zQ ?_; refine W18 ?_; refine wn ?_; refine W24 ?_; exact ⟨[_, _, _], zU3, .inl ⟨h0, rfl⟩, zU0⟩
theorem jz7 (m : zr) : FnP uj prog 7 [mV m] (fun v => v = .tup [mV (leM m), .i (leV m), .i (leE m)]) := (jm8 m).wkS (qd3 qF9)
end Go.Proofs.YthiknkcigcglkaaGreatDoor
