/- Part 15 of what the law SameSames rests on. -/
import Derived.Test.YthiknkcigcglkaaGreatDoorPkSS11
import Derived.Test.YthiknkcigcglkaaGreatDoorPkSS12
namespace Go.Proofs.YthiknkcigcglkaaGreatDoor
open Go.RowKit
open Go.Proofs.Tryz
open List (all_cons append_assoc append_nil drop_eq_getElem_cons flatMap_append flatMap_cons flatMap_nil length_append length_cons length_map length_take map_append map_cons map_nil map_set map_toArray mem_cons mem_of_getElem? nil_append not_mem_nil take_of_length_le)
open Nat (le_refl le_trans reduceLT zero_add)
open Option (map_none map_some)
set_option linter.unusedSimpArgs false
set_option linter.unusedVariables false
set_option maxRecDepth 100000
set_option maxHeartbeats 8000000
variable {bt d e i k n p q r : Nat} {M m : zr} {T : List (List Bool)} {a b : Ar} {u v : V} {y z : Value} {x : Operand} {us : List Int}
def dAt (D : List Nat) (q : Nat) : Int := ((D.getD q 0 : Nat) : Int)
theorem qd2 {D : List Nat} (h : D[q]? = some d) : dAt D q = (d : Int) := by simp [dAt, List.getD_eq_getElem?_getD, h]
def bn (D : List Nat) (q : Nat) (a : Ar) : Int := a.w + (dAt D a.t.toNat - dAt D q)
def bp (D : List Nat) (q : Nat) (a : Ar) : Ar := ⟨a.i, a.o, bn D q a, a.t⟩
def ud (D : List Nat) (q : Nat) (s : St) : Int := if s.fin = 1000000001 then 1000000001 else s.fin - dAt D q
def q49 (D : List Nat) (q : Nat) (s : St) : St := ⟨ud D q s, s.arcs.map (bp D q)⟩
def gd (D : List Nat) : Nat → List St → List St
 | _, [] => []
 | k, s :: l => q49 D k s :: gd D (k + 1) l
theorem q23 {D : List Nat} : ∀ (l : List St) (k j : Nat), (gd D k l)[j]? = (l[j]?).map (q49 D (k + j))
 | [], k, j => by simp [gd]
 | s :: l, k, 0 => by simp [gd]
 | s :: l, k, j + 1 => by
  rw [gd, List.getElem?_cons_succ, List.getElem?_cons_succ, q23 l (k + 1) j, show k + 1 + j = k + (j + 1) by omega]
def qU3 (D : List Nat) (l : List St) : Prop := ∀ q s a, l[q]? = some s → a ∈ s.arcs → bn D q a ≤ 1000000000
open Classical in
noncomputable def w9 (m : zr) : Int := if zn m ≠ 0 then zn m else if wL (enD (x9 m)) (x9 m) ≠ 0 then wL (enD (x9 m)) (x9 m) else if qU3 (wM (enD (x9 m)) (x9 m)) (x9 m).states then 0 else 4
noncomputable def vT (m : zr) : zr := if w9 m = 0 then ⟨(x9 m).start, gd (wM (enD (x9 m)) (x9 m)) 0 (x9 m).states⟩ else ⟨0, []⟩
noncomputable def ue (m : zr) : Int := if w9 m = 0 then (if (x9 m).start < 0 then 0 else dAt (wM (enD (x9 m)) (x9 m)) (x9 m).start.toNat) else 0
theorem qy3 (h : zn m ≠ 0) : w9 m = zn m := by unfold w9; rw [if_pos h]
theorem qI9 (h : zn m = 0) (h1 : wL (enD (x9 m)) (x9 m) ≠ 0) : w9 m = wL (enD (x9 m)) (x9 m) := by unfold w9; rw [if_neg (by simp [h]), if_pos h1]
theorem qy4 {T : zr} {D : List Nat} (h : zn m = 0) (h1 : wL (enD (x9 m)) (x9 m) = 0) (hT : x9 m = T) (hD : wM (enD T) T = D) {s : St} (hs : T.states[q]? = some s) (ha : a ∈ s.arcs) (hw : 1000000000 < bn D q a) : w9 m = 4 := by
 unfold w9
 rw [if_neg (by simp [h]), if_neg (by simp [h1]), hT, hD, if_neg (fun hh => by have := hh q s a hs ha; omega)]
theorem qt6 {T : zr} {D : List Nat} (h : zn m = 0) (h1 : wL (enD (x9 m)) (x9 m) = 0) (hT : x9 m = T) (hD : wM (enD T) T = D) (ho : qU3 D T.states) : w9 m = 0 ∧ vT m = ⟨T.start, gd D 0 T.states⟩ ∧ ue m = if T.start < 0 then 0 else dAt D T.start.toNat := by
 grind [w9, vT, ue]
theorem q24 {D : List Nat} (h : wL D m = 0) : zn m = 0 := by grind [wL, zn]
theorem qy5 {m : zr} (h : wL (enD m) m = 0) : (wM (enD m) m).length = m.states.length ∧ ∀ x ∈ wM (enD m) m, x ≤ 1000000001 := by grind [enD, okD, q24, wL, wM, vL, ws, List.all_eq_true]
theorem qU4 {u' y : V} (h : ∀ w q g x, VRep w q g u x → VRep w q g u' x) : ∀ w q g x, VRep w q g (.tup [u, v, y]) x → VRep w q g (.tup [u', v, y]) x := by
 intro w q g x hx
 cases hx with
 | tup _ cs hl hh =>
  refine .tup _ cs hl fun j a z hy hz => ?_
  match j, hy with
  | 0, hy => simp at hy; subst hy; exact h _ _ _ _ (hh 0 u z rfl hz)
  | 1, hy => exact hh 1 a z hy hz
  | 2, hy => exact hh 2 a z hy hz
  | n + 3, hy => simp at hy
def qD5 (e : Int) (M : zr) (x : Int) (v : V) : Prop := e ≠ 0 ∧ v = .tup [.agg [.i 0, .nil], .i 0, .i e] ∨ e = 0 ∧ v = .tup [mV M, .i x, .i 0]
theorem qd3 {e x : Int} (hM : e ≠ 0 → M = ⟨0, []⟩ ∧ x = 0) (v : V) (h : qD5 e M x v) (_ : v.pure) : ∃ v', v' = .tup [mV M, .i x, .i e] ∧ v'.pure ∧ ∀ w q g x, VRep w q g v x → VRep w q g v' x := by
 refine ⟨_, rfl, by simp [V.pure, V.has, V.hasL], ?_⟩
 rcases h with ⟨h0, rfl⟩ | ⟨h0, rfl⟩
 ·grind [qU4, q17]
 rw [h0]
 exact fun _ _ _ _ h => h
theorem qJ0 (h : w9 m ≠ 0) : vT m = ⟨0, []⟩ ∧ ue m = 0 := ⟨by unfold vT; rw [if_neg h], by unfold ue; rw [if_neg h]⟩
theorem qm9 {D : List Nat} {i o w : Int} (h : D[p]? = some d) (h2 : D[q]? = some e) : bn D q ⟨i, o, w, p⟩ = w + ((d : Int) - (e : Int)) := by grind [bn, qd2, Int.toNat_natCast]
theorem jj3 {D : List Nat} {i o w : Int} (h : D[p]? = some d) (h2 : D[q]? = some e) : bp D q ⟨i, o, w, p⟩ = ⟨i, o, w + ((d : Int) - (e : Int)), p⟩ := by
 unfold bp; rw [qm9 h h2]
theorem qJ1 {D : List Nat} {s : St} (h : s.fin = 1000000001) : ud D q s = 1000000001 := by unfold ud; rw [if_pos h]
theorem qJ2 {D : List Nat} {s : St} (h : s.fin ≠ 1000000001) (h2 : D[q]? = some d) : ud D q s = s.fin - (d : Int) := by unfold ud; rw [if_neg h, qd2 h2]
theorem qD6 (h : zn m ≠ 0) : Fn prog 45 [mV m] (fun v => v = .tup [.agg [.i 0, .nil], .i (zn m)]) := (qq9 m).mono fun v hv => by grind
theorem qM7 (h : zn m = 0) : Fn prog 45 [mV m] (fun v => v = .tup [mV (x9 m), .i 0]) := (qq9 m).mono fun v hv => by grind
theorem q89 {D : List Nat} : ∀ (l : List St) (k : Nat), (gd D k l).length = l.length
 | [], k => rfl
 | s :: l, k => by rw [gd, length_cons, length_cons, q89 l (k + 1)]
theorem qy6 (m : zr) : Fn prog 20 [mV m] (fun v => qD5 (w9 m) (vT m) (ue m) v) := by
 by_cases h0 : zn m = 0
 ·have vN := qM7 h0
  by_cases h1 : wL (enD (x9 m)) (x9 m) = 0
  ·obtain ⟨hDl, hDb⟩ := qy5 h1
   have y4 := qD0 (qr0 (x9 m)) h1; have hz := xj (q24 h1)
   have bq := fun (D : List Nat) (T : zr) (hT : x9 m = T) (hD : wM (enD T) T = D) (q : Nat) (s : St) (a : Ar) => qy4 (m := m) (T := T) (D := D) h0 h1 hT hD (q := q) (s := s) (a := a)
   have gy := fun (D : List Nat) (T : zr) (hT : x9 m = T) (hD : wM (enD T) T = D) => qt6 (m := m) (T := T) (D := D) h0 h1 hT hD
   obtain ⟨T, hT⟩ : ∃ T, x9 m = T := ⟨_, rfl⟩; obtain ⟨D, hD⟩ : ∃ D, wM (enD T) T = D := ⟨_, rfl⟩; rw [hT] at vN hDl hDb y4 hz; rw [hD] at hDl hDb y4; have bq := bq D T hT hD; have gy := gy D T hT hD; obtain ⟨e, he⟩ : ∃ e, w9 m = e := ⟨_, rfl⟩; obtain ⟨M, hM⟩ : ∃ M, vT m = M := ⟨_, rfl⟩; obtain ⟨X, hX⟩ : ∃ X, ue m = X := ⟨_, rfl⟩; rw [he, hM, hX] at gy ⊢; rw [he] at bq; obtain ⟨st, sts⟩ := m
   obtain ⟨a, Ts⟩ := T; clear hT hD h1 he hM hX; obtain ⟨xZ, vw, xR, hz⟩ := hz; simp only at xZ vw xR hz hDl vN y4 bq gy
   have ui : ∀ x ∈ Ts, x.arcs.length ≤ 400 := fun x hx => le_trans (yq Ts x hx) vw
   obtain ⟨n, hn⟩ : ∃ n, Ts.length = n := ⟨_, rfl⟩; rw [hn] at xZ xR hz hDl; obtain ⟨L, hL⟩ : ∃ L, gd D 0 Ts = L := ⟨_, rfl⟩; have hLl : L.length = n := by rw [← hL, q89, hn]
   rw [hL] at gy; refine qc 134 fun w0 out => ?_; refine W64 ?_; refine qa vN ?_; refine W78 ?_; refine wn ?_; refine qa y4 ?_; refine qC0 ?_; refine qe8 ?_; refine q9 rfl (zp (l := [.i 0, .nil]) 8 xN rfl rfl rfl rfl) ?_; refine q34 ?_; refine qq 8 1 101 2 35 rfl rfl rfl zT4 ?_; refine zW ?_
   refine qb (fun s' => ∃ k : Nat, k ≤ n ∧ (∀ q x y, q < k → Ts[q]? = some x → y ∈ x.arcs → bn D q y ≤ 1000000000) ∧ s' = ⟨134, [(2, .ref 2 0), (5, .ref 5 0), (7, .d (yl D)), (8, .ref 8 0), (9, .i k)], [(2, ⟨24, [.i 0, .nil], false, 0⟩), (5, ⟨24, [.i a, .d (zq Ts)], false, 0⟩), (8, ⟨24, [.i a, .own 101 2 k (decide (k = 0))], false, 0⟩), (101, ⟨35, (L.take k).flatMap xT, decide (k = 0), 2⟩)], []⟩) (fun s' => n - s'.nat 9) ⟨_, ?_, 0, by omega, (fun q x y h => absurd h zg), rfl⟩ ?_
   ·exact q8
   rintro s' ⟨k, hk, x6, rfl⟩
   by_cases zk : k < n
   ·obtain ⟨x, hx⟩ := zl hn zk
    obtain ⟨d, hd⟩ := zl hDl zk; have hdb := hDb d (mem_of_getElem? hd); have hxm := mem_of_getElem? hx; have hxf := (hz x hxm).1; simp only [vy, decide_eq_true_eq] at hxf; obtain ⟨la, xr⟩ : ∃ n, x.arcs.length = n := ⟨_, rfl⟩; have q39 := ui x hxm; rw [xr] at q39; have hLk : L[k]? = some (q49 D k x) := by rw [← hL, q23, hx, zero_add]; rfl
    have vl := congrArg (List.flatMap xT) (x5 hLk); rw [flatMap_append, flatMap_cons, flatMap_nil, append_nil] at vl
    have xA : ((L.take k).flatMap xT).length = k * 2 := by rw [vh (sz := 2) (fun _ => rfl), length_take]; omega
    refine xS ?_; refine qe rfl rfl (xI (vs := [(0, _)]) (zs := [.i 0, .nil]) qa2 xD rfl rfl rfl rfl) ?_; refine q9 rfl (zp (l := [.i 0, .nil]) 10 xD rfl zT0 rfl rfl) ?_; refine zR ?_
    refine qn (fun s' => s' = ⟨134, [(2, .ref 2 0), (5, .ref 5 0), (7, .d (yl D)), (8, .ref 8 0), (9, .i k), (10, .ref 10 0)], [(2, ⟨24, [.i 0, .nil], false, 0⟩), (5, ⟨24, [.i a, .d (zq Ts)], false, 0⟩), (8, ⟨24, [.i a, .own 101 2 k (decide (k = 0))], false, 0⟩), (101, ⟨35, (L.take k).flatMap xT, decide (k = 0), 2⟩), (10, ⟨35, [.i (ud D k x), .nil], false, 0⟩)], []⟩) ?_ ?_
    ·skip
     by_cases w3 : x.fin = 1000000001
     ·have hpf : ud D k x = 1000000001 := qJ1 w3
      refine xu ?_; refine ⟨_, ?_, rfl⟩; rw [hpf]; exact q8
     have hpf : ud D k x = x.fin - (d : Int) := qJ2 w3 hd; refine ve ?_; refine jK7 ?_; refine W85 ?_; refine qo rfl rfl rfl (vA zz rfl rfl rfl rfl rfl rfl rfl zT7 rfl) ?_; refine W10 ?_; refine ⟨_, ?_, rfl⟩; rw [hpf]; exact q8
    rintro s' rfl; obtain ⟨F, hF⟩ : ∃ F, ud D k x = F := ⟨_, rfl⟩; rw [hF]; obtain ⟨A, hA⟩ : ∃ A, x.arcs.map (bp D k) = A := ⟨_, rfl⟩; have w5 : A.length = la := by rw [← hA, length_map, xr]
    have hS : q49 D k x = ⟨F, A⟩ := by rw [← hF, ← hA]; rfl
    rw [hS] at vl; refine qq 10 1 102 4 47 rfl rfl rfl (by simp [S.clean, V.has, V.hasL, V.cs, xg, -List.map_take]) ?_; refine vF ?_
    refine qb (fun s' => ∃ i : Nat, i ≤ la ∧ (∀ j y, j < i → x.arcs[j]? = some y → bn D k y ≤ 1000000000) ∧ s' = ⟨134, [(2, .ref 2 0), (5, .ref 5 0), (7, .d (yl D)), (8, .ref 8 0), (9, .i k), (10, .ref 10 0), (11, .d (zU x.arcs)), (12, .i i)], [(2, ⟨24, [.i 0, .nil], false, 0⟩), (5, ⟨24, [.i a, .d (zq Ts)], false, 0⟩), (8, ⟨24, [.i a, .own 101 2 k (decide (k = 0))], false, 0⟩), (101, ⟨35, (L.take k).flatMap xT, decide (k = 0), 2⟩), (10, ⟨35, [.i F, .own 102 4 i (decide (i = 0))], false, 0⟩), (102, ⟨47, (A.take i).flatMap vG, decide (i = 0), 4⟩)], []⟩) (fun s' => la - s'.nat 12) ⟨_, ?_, 0, by omega, (fun j y h => absurd h zg), rfl⟩ ?_
    ·exact q8
    rintro s' ⟨i, hi, hik, rfl⟩
    have qg0 : ((A.take i).flatMap vG).length = i * 4 := by rw [vh (sz := 4) (fun _ => rfl), length_take]; omega
    by_cases vr : i < la
    ·obtain ⟨y, hy⟩ := zl xr vr
     have hym := mem_of_getElem? hy; have hyt := (hz x hxm).2 y hym; have hyA : A[i]? = some (bp D k y) := by rw [← hA, List.getElem?_map, hy]; rfl
     obtain ⟨yi, yo, yw, yt⟩ := y; simp only [xl, decide_eq_true_eq] at hyt; obtain ⟨p, rfl⟩ : ∃ p : Nat, yt = p := ⟨yt.toNat, by omega⟩
     obtain ⟨dp, hdp⟩ := zl hDl (show p < n by omega)
     have k62 := hDb dp (mem_of_getElem? hdp); have hpw : bn D k ⟨yi, yo, yw, p⟩ = yw + (dp : Int) - (d : Int) := by rw [qm9 hdp hd]; omega
     have hpa : bp D k ⟨yi, yo, yw, p⟩ = ⟨yi, yo, yw + (dp : Int) - (d : Int), p⟩ := by unfold bp; rw [hpw]
     have uh := congrArg (List.flatMap vG) (x5 hyA); rw [hpa, flatMap_append, flatMap_cons, flatMap_nil, append_nil] at uh
     by_cases hov : 1000000000 < yw + (dp : Int) - (d : Int)
     ·have he4 : e = 4 := bq k x _ hx hym (by rw [hpw]; exact hov)
      subst he4; refine W60 ?_; refine W83 ?_; refine W44 ?_; refine W14 ?_; exact ⟨[_, _, _], zU3, zU8, zU0⟩
     skip; refine W60 ?_; refine W83 ?_; refine W44 ?_
     refine qi [(0, true), (1, true), (2, true), (3, true), (4, true), (5, true), (6, true), (7, true), (8, true), (9, true), (10, true), (11, true), (12, true), (13, true), (14, true), (15, true), (16, true), (17, true), (18, true), (19, false), (20, false), (21, false), (22, false)] (fun i => !([20, 21, 22] : List Nat).contains i) 23 zh zh rfl zh ?_; refine yB ?_
     refine qw rfl rfl rfl (fun _ _ h => h) (xI (vs := [(0, _), (1, _), (2, _), (3, _)]) (zs := [.i 0, .i 0, .i 0, .i 0]) qs0 zO rfl rfl rfl rfl) ?_; refine qm ?_; refine qI rfl rfl (zN (vs := [(0, _)]) (zs := [.i 0, .i 0, .i 0, .i 0]) 115 underlying33 zO rfl rfl zj zj zj rfl rfl rfl rfl zT0 rfl rfl) ?_; refine qO ?_
     refine qo rfl rfl rfl (xK underlying33 zO rfl zj rfl rfl rfl rfl rfl rfl zT5 zT0 rfl rfl rfl rfl rfl rfl rfl zj zg zg rfl) ?_; refine g0 ?_; refine qH rfl rfl rfl rfl (xe underlying35 rfl rfl rfl qo7 zj rfl) ?_; refine jp3 ?_; refine qf1 ?_; refine ⟨_, ?_, ⟨i + 1, by omega, fun j y hj hy' => ?_, rfl⟩, ?_⟩
     ·rw [uh]; exact q8
     ·grind
     exact zM
    obtain rfl : i = la := by omega
    have wR : A.take i = A := take_of_length_le zg; rw [wR] at qg0 ⊢; refine xX ?_; refine qs 10 1 32 (A.map arD) rfl rfl rfl zj rfl rfl (by rw [length_map, w5]) zg (vx (enc := arD) (sz := 4) (l := A) (fun _ => rfl) rfl) ?_
    refine AW.less (s' := ⟨134, [(2, .ref 2 0), (5, .ref 5 0), (7, .d (yl D)), (8, .ref 8 0), (9, .i k), (10, .ref 10 0)], [(2, ⟨24, [.i 0, .nil], false, 0⟩), (5, ⟨24, [.i a, .d (zq Ts)], false, 0⟩), (8, ⟨24, [.i a, .own 101 2 k (decide (k = 0))], false, 0⟩), (101, ⟨35, (L.take k).flatMap xT, decide (k = 0), 2⟩), (10, ⟨35, [.i F, .d (zU A)], false, 0⟩)], []⟩) q8 ?_; refine zW ?_
    refine q9 rfl (zN (vs := [(0, _)]) (zs := [.i 0, .nil]) 121 underlying22 xD rfl rfl zj zj zj rfl rfl rfl rfl zT0 rfl rfl) ?_; refine W2 ?_; refine W39 ?_; refine zY ?_; refine ⟨_, ?_, ⟨k + 1, by omega, fun q z y hq hz' hy' => ?_, rfl⟩, ?_⟩
    ·rw [vl]; exact q8
    ·by_cases eq : k = q
     ·grind [Option.some.injEq, List.getElem?_of_mem, List.getElem?_eq_some_iff]
     exact x6 q z y zg hz' hy'
    exact zM
   obtain rfl : k = n := by omega
   obtain ⟨he0, hM, hX⟩ := gy (fun q x y hx hy => x6 q x y (by have := (List.getElem?_eq_some_iff.1 hx).1; omega) hx hy); rw [he0, hM, hX]; rw [take_of_length_le zg]; refine W53 ?_; apply qg; refine qs 8 1 32 (L.map stD) rfl rfl rfl zj rfl rfl (by rw [length_map, hLl]) zg (vx (enc := stD) (sz := 2) (l := L) (fun _ => rfl) rfl) ?_
   refine AW.less (s' := ⟨134, [(2, .ref 2 0), (5, .ref 5 0), (7, .d (yl D)), (8, .ref 8 0)], [(2, ⟨24, [.i 0, .nil], false, 0⟩), (5, ⟨24, [.i a, .d (zq Ts)], false, 0⟩), (8, ⟨24, [.i a, .d (zq L)], false, 0⟩)], []⟩) q8 ?_
   by_cases ha0 : a < 0
   ·rw [if_pos ha0]
    refine xS ?_; exact ⟨[_, _, _], zU3, .inr ⟨rfl, rfl⟩, zU0⟩
   obtain ⟨p, rfl⟩ : ∃ p : Nat, a = p := ⟨a.toNat, by omega⟩
   obtain ⟨dp, hdp⟩ := zl hDl (show p < k by omega)
   have hXd : dAt D ((p : Int)).toNat = (dp : Int) := by simp only [Int.toNat_natCast]; exact qd2 hdp
   rw [if_neg ha0, hXd]; refine x8 ?_; apply qg; refine qP (N := ?N167) (l := #[false, false, false, false, false, false, false, false, false]) 9 zh rfl rfl ?_ ?_
   rotate_left
   refine ql (i := 1) rfl rfl rfl (fun _ _ h => h) zh rfl (vC rfl rfl) ?_; refine ql (i := 2) rfl rfl rfl (fun _ _ h => h) zh rfl (xe underlying24 rfl rfl rfl zz zj rfl) ?_; refine qy (i := 0) (j := 3) zh ?_ ?_
   ·refine wg ?_
    refine ST.rd rfl (vQ underlying24 rfl xN rfl rfl rfl rfl rfl rfl) ?_; refine qy (i := 3) (j := 6) zh ?_ ?_
    ·refine wg ?_
     refine ST.rd rfl (xO underlying3 rfl rfl rfl rfl rfl rfl) ?_; refine ql (i := 4) rfl rfl rfl (fun _ _ h => h) zh rfl (x7 underlying42 zz rfl rfl rfl rfl zm) ?_; refine qy (i := 5) (j := 6) zh ?_ ?_
     ·refine wg ?_
      refine ST.rd rfl (vE underlying3 rfl rfl rfl rfl) ?_; refine qp (i := 6) zh ?_; refine W12 ?_; refine q35 ?_
      show Less _ _
      exact qW _
     refine W12 ?_; refine qB9 ?_; refine ST.rd rfl (vE underlying3 rfl rfl rfl rfl) ?_; refine q35 ?_
     show Less _ _
     refine W1 ?_; exact qC
    refine W12 ?_; refine W80 ?_; refine ST.rd rfl (xO underlying3 rfl rfl rfl rfl rfl rfl) ?_; refine ql (i := 4) rfl rfl rfl (fun _ _ h => h) zh rfl (x7 underlying42 zz rfl rfl rfl rfl zm) ?_; refine qB9 ?_; refine ST.rd rfl (vE underlying3 rfl rfl rfl rfl) ?_; refine q35 ?_
    show Less _ _
    refine W1 ?_; exact qC
   ·refine wg ?_
    refine ST.rd rfl (xO underlying3 rfl rfl rfl rfl rfl rfl) ?_; refine ql (i := 4) rfl rfl rfl (fun _ _ h => h) zh rfl (x7 underlying42 zz rfl rfl rfl rfl zm) ?_; refine qy (i := 0) (j := 5) zh ?_ ?_
    ·refine wg ?_
     refine ST.rd rfl (vQ underlying24 rfl xN rfl rfl rfl rfl rfl rfl) ?_; refine qy (i := 5) (j := 6) zh ?_ ?_
     ·refine wg ?_
      refine ST.rd rfl (vE underlying3 rfl rfl rfl rfl) ?_; refine qp (i := 6) zh ?_; refine W12 ?_; refine q35 ?_
      show Less _ _
      refine W1 ?_; exact qC
     refine W12 ?_; refine qB9 ?_; refine ST.rd rfl (vE underlying3 rfl rfl rfl rfl) ?_; refine q35 ?_
     show Less _ _
     refine W1 ?_; exact qC
    refine wg ?_; refine ST.rd rfl (vE underlying3 rfl rfl rfl rfl) ?_; refine qp (i := 0) zh ?_; refine wg ?_; refine ST.rd rfl (vQ underlying24 rfl xN rfl rfl rfl rfl rfl rfl) ?_; refine qp (i := 6) zh ?_; refine W12 ?_; refine q35 ?_
    show Less _ _
    refine W1 ?_; exact qC
   refine W1 ?_; refine jc1 ?_; exact ⟨[_, _, _], zU3, .inr ⟨rfl, rfl⟩, zU0⟩
  have y4 := qp4 (qr0 (x9 m)) h1; rw [qI9 h0 h1]; obtain ⟨e, he⟩ : ∃ e, wL (enD (x9 m)) (x9 m) = e := ⟨_, rfl⟩; rw [he] at h1 y4 ⊢; obtain ⟨st, sts⟩ := m; obtain ⟨⟨a, Ts⟩, hT⟩ : ∃ T, x9 ⟨st, sts⟩ = T := ⟨_, rfl⟩; rw [hT] at vN y4; refine qc 134 fun w0 out => ?_; refine W64 ?_; refine qa vN ?_; refine W78 ?_; refine wn ?_; refine qa y4 ?_; refine W93 ?_; refine W24 ?_
  exact ⟨[_, _, _], zU3, .inl ⟨h1, rfl⟩, zU0⟩
 have vN := qD6 h0; rw [qy3 h0]; obtain ⟨st, sts⟩ := m; obtain ⟨e, he⟩ : ∃ e, zn ⟨st, sts⟩ = e := ⟨_, rfl⟩; rw [he] at h0 vN ⊢; refine qc 134 fun w0 out => ?_; refine W64 ?_; refine qa vN ?_; refine W78 ?_; refine ve ?_; refine W24 ?_; exact ⟨[_, _, _], zU3, .inl ⟨h0, rfl⟩, zU0⟩
theorem jj4 (m : zr) : Fn prog 20 [mV m] (fun v => v = .tup [mV (vT m), .i (ue m), .i (w9 m)]) := (qy6 m).wkS (qd3 qJ0)
section
variable {c : Cx} {s : S} {o : Oper}
theorem q71 {t e : TypeId} {y : Operand} {sz j : Nat} {n' : Int} {kd : IntKind} (hu : c.P.underlying t = some (.slice e)) (hi : Inf c.P e sz bt z) (ho : o.op = .slice t x (some y) none none) (hx : s.ev x = some (.own r sz n false)) (hy : s.ev y = some (.d (.p (.int kd n')))) (hk : n' = (j : Int)) (hle : j ≤ n) : RD c o s (.que r sz j (n - j)) := fun g a w hs => by
 subst hk; have h := hs.ev hx; have hyv := VRep.p_eq (hs.ev hy); generalize hxx : a.eval x = u at h
 cases h with
 | own _ _ _ hn hcp =>
  refine ⟨.slice (if (g r).2 = j then some ⟨(g r).1, 0, none⟩ else (some ⟨(g r).1, 0, none⟩ : Option Addr).map (·.add (j * sz))) (n - j) ((g r).2 - j), .que r sz j (n - j) _ _ zg zg fun h0 => ?_, fun w' _ => ?_⟩
  ·rw [if_neg zg]
   exact ⟨by simp only [map_some, Addr.add, zero_add]; split <;> simp_all, by omega⟩
  have h0 : (0 : Int) ≤ (j : Int) ∧ (j : Int) ≤ (n : Int) := by omega
  simp only [execOp, ho, hxx, hyv, map_some, map_none]; simp only [Instr.sliceAt, Instr.slice, Sem.run_bind, run_underlying hu, Result.andThen_ok, Instr.sliceBounds, run_sliceBound _ kd _ _ _ h0.1 h0.2, Sem.run_pure, vP hi, Int.toNat_natCast]; rfl
theorem qt7 {t e : TypeId} {x y : Operand} {r p m k : Nat} {us xs : List Int} {row : Row} (hu : c.P.underlying t = some (.slice e)) (hi : Inf c.P e 1 bt z)
  (ho : o.op = .call { callee := .builtin .copy, args := #[x, y], argTypes := #[t, t] })
  (hx : ∀ g a w, Sim c g s a w → ∃ cap, a.eval x = .slice (some ⟨(g r).1, p, none⟩) m cap)
  (hy : ∀ g a w, Sim c g s a w → ∃ b q cap, a.eval y = .slice (some ⟨b, q, none⟩) us.length cap ∧ ∀ (j : Nat) (u : Int), us[j]? = some u → w.cell? ⟨b, q + j, none⟩ = some (.int .i64 u))
  (hr : fnd s.H r = some row) (hnl : row.nil = false) (hc : row.cells = xs.map V.i) (hpm : p + m ≤ xs.length) (hk : min us.length m = k) (hd : dok s o = true) :
  vm c o s (fun s' => s' = S.put ⟨s.n, s.T, (r, { row with cells := (xs.take p ++ us.take k ++ xs.drop (p + k)).map V.i }) :: s.H, s.K⟩ o.dst (.i (k : Int))) := by
 intro g a w hs K Q hK; obtain ⟨cap, hxx⟩ := hx g a w hs; obtain ⟨b, q, cap2, hyy, ux⟩ := hy g a w hs; obtain ⟨arr, h1, kb5, h2⟩ := hs.obj r row hr hnl; have hul : k ≤ us.length := by omega
 have hvl : ((us.take k).map fun u : Int => Value.int .i64 u).length = k := by simp; omega
 have jd6 := run_loadCells_list (P := c.P) (w := w) ⟨b, q, none⟩ ((us.take k).map fun u : Int => Value.int .i64 u) (fun j v hj => by
  rw [List.getElem?_map, List.getElem?_take] at hj
  split at hj
  ·grind [Option.some.injEq, wN]
  cases hj)
 rw [hvl] at jd6
 have kb6 : xs.length ≤ arr.size := by
  by_cases h0 : xs.length = 0
  ·omega
  have zk : xs.length - 1 < xs.length := by omega
  obtain ⟨y, h3, _⟩ := h2 (xs.length - 1) (.i xs[xs.length - 1]) (by rw [hc, List.getElem?_map, List.getElem?_eq_getElem zk]; rfl); have := (Array.getElem?_eq_some_iff.1 h3).1; omega
 have zv := run_storeCells_at c.P (g r).1 p row.ty ((us.take k).map fun u : Int => Value.int .i64 u) 0 arr w h1 (by rw [hvl]; omega) (fun v hv => by obtain ⟨u, _, rfl⟩ := List.mem_map.1 hv; rfl)
 unfold Oper.wp
 have xP : (execOp a.eval o).run c.P w = .ok (.value (.int .i64 (k : Int))) (w.setRow (g r).1 (arr.toList.take (p + 0) ++ ((us.take k).map fun u : Int => Value.int .i64 u) ++ arr.toList.drop (p + 0 + ((us.take k).map fun u : Int => Value.int .i64 u).length)).toArray) := by
  have qC8 : Nat.min us.length m = k := hk
  generalize ((us.take k).map fun u : Int => Value.int .i64 u) = vs at jd6 zv
  have jX9 : (Builtin.copy_ #[t, t] o.type #[.slice (some ⟨(g r).1, p, none⟩) m cap, .slice (some ⟨b, q, none⟩) us.length cap2]).run c.P w = .ok (.int .i64 (k : Int)) (w.setRow (g r).1 (arr.toList.take (p + 0) ++ vs ++ arr.toList.drop (p + 0 + vs.length)).toArray) := by
   simp [Builtin.copy_, run_underlying hu, vP hi, Builtin.lenOf, Builtin.firstCells, qC8, jd6, zv, goInt]
  simp only [execOp, ho, resolve, invoke, builtin, Sem.run_bind, Sem.run_pure, Result.andThen_ok, map_toArray, map_cons, map_nil, hxx, hyy, jX9]
 rw [xP]
 have hs2 : Sim c g { s with H := (r, { row with cells := (xs.take p ++ us.take k ++ xs.drop (p + k)).map V.i }) :: s.H } a (w.setRow (g r).1 (arr.toList.take (p + 0) ++ ((us.take k).map fun u : Int => Value.int .i64 u) ++ arr.toList.drop (p + 0 + ((us.take k).map fun u : Int => Value.int .i64 u).length)).toArray) := by
  refine Sim.setRow hs (row' := { row with cells := (xs.take p ++ us.take k ++ xs.drop (p + k)).map V.i }) hr hnl rfl hnl rfl (setRow_heap _ _ _ _ _ _ h1) (fun b hb => setRow_other _ _ _ _ hb) zx rfl rfl rfl ?_ ?_
  ·grind
  intro j v hv
  have key : (xs.take p ++ us.take k ++ xs.drop (p + k))[j]? = none ∨ ∃ u, (xs.take p ++ us.take k ++ xs.drop (p + k))[j]? = some u ∧ (arr.toList.take (p + 0) ++ ((us.take k).map fun u : Int => Value.int .i64 u) ++ arr.toList.drop (p + 0 + ((us.take k).map fun u : Int => Value.int .i64 u).length))[j]? = some (.int .i64 u) := by
   have hat : ∀ (i : Nat) (u : Int), xs[i]? = some u → arr.toList[i]? = some (.int .i64 u) := fun i u hu => by
    obtain ⟨y, h3, h4⟩ := h2 i (.i u) (by rw [hc, List.getElem?_map, hu]; rfl); rw [VRep.p_eq h4] at h3
    simpa using h3
   simp only [Nat.add_zero, hvl, append_assoc]
   by_cases hj : j < p
   ·grind
   grind
  simp only [List.getElem?_map] at hv
  rcases key with hn | ⟨u, h5, h6⟩
  ·rw [hn] at hv; cases hv
  rw [h5] at hv; simp only [map_some, Option.some.injEq] at hv; subst hv; exact ⟨_, by simpa using h6, .d _ _ (.p _)⟩
 exact hK g _ _ _ rfl (hs2.put o.dst (zJ hd) (.d _ _ (.p _)))
theorem jQ0 (hx : s.ev x = some (.own r 1 n false)) : ∀ g a w, Sim c g s a w → ∃ cap, a.eval x = .slice (some ⟨(g r).1, 0, none⟩) n cap := fun g a w hs => by
 have h := hs.ev hx; generalize hxx : a.eval x = u at h
 cases h with
 | own _ _ _ hn hcp => exact ⟨_, rfl⟩
theorem jj5 {m : Nat} (hm : 0 < m) (hx : s.ev x = some (.que r 1 p m)) : ∀ g a w, Sim c g s a w → ∃ cap, a.eval x = .slice (some ⟨(g r).1, p, none⟩) m cap := fun g a w hs => by
 have h := hs.ev hx; generalize hxx : a.eval x = u at h
 cases h with
 | que _ _ _ _ ad cap hn vK h =>
  obtain ⟨rfl, _⟩ := h zg; exact ⟨cap, by rw [Nat.mul_one]⟩
theorem jY0 (h0 : us ≠ []) (hx : s.ev x = some (.d (.sl 1 8 (us.map fun u : Int => [D.p (.int .i64 u)])))) : ∀ g a w, Sim c g s a w → ∃ b q cap, a.eval x = .slice (some ⟨b, q, none⟩) us.length cap ∧ ∀ (j : Nat) (u : Int), us[j]? = some u → w.cell? ⟨b, q + j, none⟩ = some (.int .i64 u) := fun g a w hs => by
 have h := hs.ev hx; generalize hxx : a.eval x = u at h
 cases h with
 | d _ _ h =>
  generalize vi : (us.map fun u : Int => [D.p (.int .i64 u)]) = rows at h
  have zI : rows.length = us.length := by rw [← vi, length_map]
  cases h with
  | sl _ _ _ ad cap b o f hcp ha hl hc hr =>
   obtain ⟨e1, _, _⟩ := ha (by rw [← vi]; simpa using h0); subst e1; refine ⟨b, o, cap, by rw [← zI], fun j u hu => ?_⟩; have hj : rows[j]? = some [D.p (.int .i64 u)] := by rw [← vi, List.getElem?_map, hu]; rfl
   have h1 := hc j 0 _ _ hj rfl; have h2 := hr j 0 _ _ hj rfl
   have h3 : f j 0 = .int .i64 u := by
    generalize f j 0 = y at h2
    cases h2; rfl
   rw [← h3, ← h1]
   congr 2
   omega
theorem j54 {xs : List Int} {row : Row} (hx : s.ev x = some (.own r 1 k false)) (hr : fnd s.H r = some row) (hnl : row.nil = false) (hc : row.cells = xs.map V.i) (hk : k ≤ xs.length) (hu : us = xs.take k) : ∀ g a w, Sim c g s a w → ∃ b q cap, a.eval x = .slice (some ⟨b, q, none⟩) us.length cap ∧ ∀ (j : Nat) (u : Int), us[j]? = some u → w.cell? ⟨b, q + j, none⟩ = some (.int .i64 u) := fun g a w hs => by
 subst hu; have h := hs.ev hx; obtain ⟨arr, h1, _, h2⟩ := hs.obj r row hr hnl; generalize hxx : a.eval x = u at h
 cases h with
 | own _ _ _ hn hcp =>
  refine ⟨_, 0, _, by rw [length_take, Nat.min_eq_left hk], fun j u hu => ?_⟩; rw [List.getElem?_take] at hu
  split at hu
  ·obtain ⟨y, h3, h4⟩ := h2 j (.i u) (by rw [hc, List.getElem?_map, hu]; rfl)
   rw [VRep.p_eq h4] at h3; rw [zero_add, cell_of_row w _ _ _ _ _ h1, h3]
  cases hu
end
theorem kg {P : Program} {f : FuncId} {xs : List Value} {args : List V} (h : ∀ w, Calls P f xs.toArray w fun e w' => e = .returned y ∧ Below w.heap.size w w') (ha : ∀ w q g zs, y9 w q g args zs → zs = xs) (hv : ∀ w q g, VRep w q g v y) (hp : v.pure) : Fn P f args (fun v' => v' = v) := by
 intro w out g zs ho hz; obtain rfl := ha _ _ _ _ hz; refine (h w).mono ?_; rintro e w' ⟨rfl, hb⟩; exact ⟨v, y, rfl, rfl, hp, hv _ _ _, hb⟩
theorem jQ1 (n : Nat) (h : n ≤ 1000000) : Fn prog 42 [.d (.p (.int .u64 1)), .d (.p (.int .u64 (n : Int)))] (fun v => v = .tup [.d (.p (.int .u64 0)), .d (.p (.int .u64 (n : Int)))]) :=
 kg (xs := [.int .u64 1, .int .u64 (n : Int)]) (y := .tuple #[.int .u64 0, .int .u64 (n : Int)]) (fun w => (jo0 1 n zj zg w).mono fun e w' ⟨he, hw⟩ => ⟨by
  rw [he]; have h1 : 1 * n / 18446744073709551616 = 0 := by omega
  have h2 : 1 * n % 18446744073709551616 = n := by omega
  rw [h1, h2]; rfl, by rw [hw]; exact Below.refl _ _⟩) (fun _ _ _ zs h => by
  obtain ⟨h1, h2⟩ := h
  match zs, h1, h2 with
  | [z, z'], _, h2 => rw [VRep.p_eq (h2 0 _ z rfl rfl), VRep.p_eq (h2 1 _ z' rfl rfl)]) (fun _ _ _ => .tup _ _ rfl fun j u z hu hz => by
  match j, hu, hz with
  | 0, hu, hz => simp at hu hz; subst hu hz; exact .d _ _ (.p _)
  | 1, hu, hz => simp at hu hz; subst hu hz; exact .d _ _ (.p _)
  | j + 2, hu, hz => simp at hu) zT8
theorem jF4 {m : Nat} (hm : m ≤ k) (hk : k + m ≤ n) : (List.replicate k (-1 : Int) ++ List.replicate (n - k) 0).take k ++ (List.replicate k (-1 : Int)).take m ++ (List.replicate k (-1 : Int) ++ List.replicate (n - k) 0).drop (k + m) = List.replicate (k + m) (-1 : Int) ++ List.replicate (n - (k + m)) 0 := by
 rw [List.take_left' zx, List.take_replicate, Nat.min_eq_left hm, List.drop_append, List.drop_eq_nil_of_le zx, nil_append, List.drop_replicate, List.length_replicate]; have e1 : List.replicate (k + m) (-1 : Int) = List.replicate k (-1) ++ List.replicate m (-1) := by simp
 rw [e1, show n - k - (k + m - k) = n - (k + m) by omega]
theorem jj6 (n : Nat) (h1 : 1 ≤ n) (hn : n ≤ 1000000) : FnO prog 18 [.d (ua [-1]), .i (n : Int)] (fun v H => v = .own 901 1 n false ∧ H = [(901, ⟨3, List.replicate n (.i (-1)), false, 1⟩)]) := by
 have ja8 := jQ1 n hn
 have h1l : (List.map (fun x => [D.p (Value.int IntKind.i64 x)]) [(-1 : Int)]).length = 1 := rfl
 refine FnO.intro (n := 48) ⟨func18, rfl, rfl, rfl, rfl⟩ zT8 zx fun w0 out => ?_; refine xS ?_
 refine qe rfl rfl (qB0 underlying3 (by intro e h; cases h) (by intro h; cases h) underlying77 rfl rfl (r := _) (by first | (rw [qo5]; omega) | (rw [qo5]; dsimp only; omega) | (rw [qO6]; omega) | (rw [qO7 zg] <;> omega) | (rw [qB1 zg] <;> omega))) ?_
 refine Dv ?_
 refine qe rfl rfl (qB0 underlying3 (by intro e h; cases h) (by intro h; cases h) underlying77 rfl rfl (r := _) (by first | (rw [qo5]; omega) | (rw [qo5]; dsimp only; omega) | (rw [qO6]; omega) | (rw [qO7 zg] <;> omega) | (rw [qB1 zg] <;> omega))) ?_
 refine qa ja8 ?_; refine zQ ?_; refine gi ?_
 refine qe rfl rfl (qB0 underlying77 (by intro e h; cases h) (by intro h; cases h) underlying3 rfl rfl (r := _) (by first | (rw [qo5]; omega) | (rw [qo5]; dsimp only; omega) | (rw [qO6]; omega) | (rw [qO7 zg] <;> omega) | (rw [qB1 zg] <;> omega))) ?_
 refine q9 rfl (vg 901 V.i (0) underlying42 zz rfl rfl rfl rfl rfl zg zj rfl rfl) ?_; refine zC ?_; refine qf rfl (qt7 (r := 901) (p := 0) (m := n) (k := 1) (us := [-1]) (xs := List.replicate n 0) underlying42 zz rfl (jQ0 rfl) (jY0 zx rfl) rfl rfl zx zx (by simp; omega) rfl) ?_; refine zW ?_
 have e0 : (List.replicate 1 (-1 : Int) ++ List.replicate (n - 1) 0).map V.i = V.i (-1) :: ((List.replicate n (0 : Int)).drop 1).map V.i := by simp
 clear ja8; refine qb (fun s' => ∃ k : Nat, 1 ≤ k ∧ k ≤ n ∧ s' = ⟨48, [(7, .own 901 1 n false), (8, .i k)], [(901, ⟨3, (List.replicate k (-1 : Int) ++ List.replicate (n - k) 0).map V.i, false, 1⟩)], []⟩) (fun s' => n - s'.nat 8) ⟨_, ?_, 1, by omega, h1, rfl⟩ ?_
 ·rw [e0]; exact q8
 rintro s' ⟨k, hk1, hk, rfl⟩
 by_cases zk : k < n
 ·skip
  refine ve ?_; refine qP (N := ?N176) (l := #[false, false, false, false, false, false, false, false, false, false]) 10 zh rfl rfl ?_ ?_
  rotate_left
  refine W61 ?_; refine ql (i := 2) rfl rfl rfl (fun _ _ h => h) zh rfl (vC rfl rfl) ?_; refine jp1 ?_; refine ql (i := 5) rfl rfl rfl (fun _ _ h => h) zh rfl (vC rfl rfl) ?_; refine qy (i := 3) (j := 6) zh ?_ ?_
  ·refine wg ?_
   refine ST.rd rfl (q71 (j := k) underlying42 zz rfl rfl rfl rfl zg) ?_; refine qp (i := 6) zh ?_; refine wg ?_; refine ST.rd rfl (bb underlying42 zz rfl rfl rfl rfl zg) ?_; refine qp (i := 7) zh ?_; refine wg ?_
   refine jb (qt7 (r := 901) (p := k) (m := n - k) (k := min k (n - k)) (us := List.replicate k (-1 : Int)) (xs := List.replicate k (-1 : Int) ++ List.replicate (n - k) 0) underlying42 zz rfl (jj5 zg rfl) (j54 rfl rfl rfl rfl zx (by rw [List.take_left' zx])) rfl rfl rfl (by simp only [length_append, List.length_replicate]; omega) (by rw [List.length_replicate]) rfl) ?_; refine jM7 ?_
   refine qL zh ?_
   show Less _ _
   exact qW _
  ·refine wg ?_
   refine ST.rd rfl (bb underlying42 zz rfl rfl rfl rfl zg) ?_; refine W80 ?_; refine ST.rd rfl (q71 (j := k) underlying42 zz rfl rfl rfl rfl zg) ?_; refine qp (i := 7) zh ?_; refine wg ?_
   refine jb (qt7 (r := 901) (p := k) (m := n - k) (k := min k (n - k)) (us := List.replicate k (-1 : Int)) (xs := List.replicate k (-1 : Int) ++ List.replicate (n - k) 0) underlying42 zz rfl (jj5 zg rfl) (j54 rfl rfl rfl rfl zx (by rw [List.take_left' zx])) rfl rfl rfl (by simp only [length_append, List.length_replicate]; omega) (by rw [List.length_replicate]) rfl) ?_; refine jM7 ?_
   refine qL zh ?_
   show Less _ _
   refine W1 ?_; exact qC
  refine W1 ?_; refine qa3 ?_; have qb3 := jF4 (n := n) (k := k) (m := min k (n - k)) zg zg; refine ⟨_, ?_, ⟨k + min k (n - k), by omega, by omega, rfl⟩, ?_⟩
  ·rw [← qb3]; exact q8
  exact zM
 obtain rfl : k = n := by omega
 refine vF ?_; have e1 : (List.replicate k (-1 : Int) ++ List.replicate (k - k) 0).map V.i = List.replicate k (V.i (-1)) := by simp
 rw [e1]
 exact ⟨[_], [(901, ⟨3, List.replicate k (.i (-1)), false, 1⟩)], ⟨rfl, trivial⟩, ⟨rfl, trivial⟩, ⟨rfl, rfl⟩, by simp [zZ, V.has, V.hasL], fun r row j h1 h2 => by
  simp only [fnd] at h1
  split at h1
  ·cases h1
   simp only at h2
   have : V.hasL j (List.replicate k (V.i (-1))) = false := by
    rw [V.hasL_false]; intro v hv; rw [List.eq_of_mem_replicate hv]; rfl
   rw [this] at h2; cases h2
  cases h1⟩
abbrev qN6 (b : Bool) : List D := [.p (.bool b)]
abbrev qg8 (r : List Bool) : List D := [.sl 1 1 (r.map qN6)]
theorem ju5 {l r : List Ar} {R tb : Bool} (ha : l[i]? = some a) (hb : r[i]? = some b) (h : apA T (l.drop i) (r.drop i) = R) (hp : a.t = (p : Int)) (hq : b.t = (q : Int)) (ht : tG T p q = tb) :
  ((a.i = b.i ∧ a.o = b.o ∧ a.w = b.w ∧ tb = false) → apA T (l.drop (i + 1)) (r.drop (i + 1)) = R) ∧ (¬ (a.i = b.i ∧ a.o = b.o ∧ a.w = b.w ∧ tb = false) → R = true) := by
 have h1 : l.drop i = a :: l.drop (i + 1) := by grind [List.getElem?_eq_some_iff, drop_eq_getElem_cons]
 have h2 : r.drop i = b :: r.drop (i + 1) := by grind [List.getElem?_eq_some_iff, drop_eq_getElem_cons]
 have h3 : tG T a.t.toNat b.t.toNat = tb := by rw [hp, hq]; exact ht
 subst h3; rw [h1, h2, apA] at h
 constructor
 ·intro hc
  rw [if_pos hc] at h; exact h
 intro hc; rw [if_neg hc] at h; exact h.symm
theorem ju6 (n : Nat) (T : List (List Bool)) (hT : tOk n T) (x y : St) (hx4 : x.arcs.length ≤ 400) (hx : ∀ a ∈ x.arcs, 0 ≤ a.t ∧ a.t < n) (hy : ∀ a ∈ y.arcs, 0 ≤ a.t ∧ a.t < n) : Fn prog 50 [.agg [.i x.fin, .d (zU x.arcs)], .agg [.i y.fin, .d (zU y.arcs)], .d (.sl 1 24 (T.map qg8))] (fun v => v = .b (apB T x y)) := by
 obtain ⟨f, A⟩ := x; obtain ⟨g, B⟩ := y; simp only at hx4 hx hy; obtain ⟨la, xr⟩ : ∃ la, A.length = la := ⟨_, rfl⟩; obtain ⟨lb, hlb⟩ : ∃ lb, B.length = lb := ⟨_, rfl⟩
 by_cases hf : f = g
 ·by_cases hl : la = lb
  ·subst hf hl
   have hR : apB T ⟨f, A⟩ ⟨f, B⟩ = apA T A B := by unfold apB; rw [if_pos ⟨rfl, by simp only; rw [xr, hlb]⟩]
   rw [hR]; obtain ⟨R, hRd⟩ : ∃ R, apA T A B = R := ⟨_, rfl⟩; rw [hRd]; clear hR; refine qc 71 fun w0 out => ?_; refine qB8 ?_; refine q9 rfl (uV 4 rfl rfl rfl rfl rfl) ?_
   iterate 26 refine Dv ?_
   refine qb (fun s' => ∃ i : Nat, i ≤ la ∧ apA T (A.drop i) (B.drop i) = R ∧ s' = ⟨71, [(2, .d (.sl 1 24 (T.map qg8))), (3, .ref 3 0), (4, .ref 4 0), (7, .i i)], [(3, ⟨35, [.i f, .d (zU A)], false, 0⟩), (4, ⟨35, [.i f, .d (zU B)], false, 0⟩)], []⟩) (fun s' => la - s'.nat 7) ⟨_, ?_, 0, by omega, hRd, rfl⟩ ?_
   ·exact q8
   clear hRd; rintro s' ⟨i, hi, hRd, rfl⟩
   by_cases zk : i < la
   ·obtain ⟨a, ha⟩ := zl xr zk
    obtain ⟨b, hb⟩ := zl hlb zk; obtain ⟨a1, a2⟩ := hx a (mem_of_getElem? ha); obtain ⟨b1, b2⟩ := hy b (mem_of_getElem? hb); obtain ⟨ai, ao, aw, at'⟩ := a; obtain ⟨bi, bo, bw, bt⟩ := b; simp only at a1 a2 b1 b2; obtain ⟨p, rfl⟩ := Int.eq_ofNat_of_zero_le a1; obtain ⟨q, rfl⟩ := Int.eq_ofNat_of_zero_le b1; obtain ⟨r, h1, h2, h3⟩ := hT.row (q := p) zg; have h4 := h3 q zg; clear h3
    obtain ⟨tb, htb⟩ : ∃ tb, tG T p q = tb := ⟨_, rfl⟩; rw [htb] at h4; obtain ⟨jQ2, vO⟩ := ju5 ha hb hRd rfl rfl htb; simp only at jQ2 vO; clear htb hRd
    by_cases c1 : ai = bi
    ·by_cases c2 : ao = bo
     ·by_cases c3 : aw = bw
      ·cases tb with
       | true =>
        have hRt := vO zx; subst hRt; refine W68 ?_; refine xB ?_; refine W55 ?_; refine W3 ?_; refine bL ?_; refine qk7 ?_; exact ⟨[_], ⟨rfl, trivial⟩, rfl, zU0⟩
       | false =>
        have hRd := jQ2 ⟨c1, c2, c3, rfl⟩; refine W68 ?_; refine xB ?_; refine W55 ?_; refine W3 ?_; refine bL ?_; refine W44 ?_; refine ⟨_, ?_, ⟨i + 1, by omega, hRd, rfl⟩, ?_⟩
        ·exact q8
        exact zM
      have hRt := vO (by simp [c3]); subst hRt; refine W68 ?_; refine xB ?_; refine W55 ?_; refine W3 ?_; refine bL ?_; refine qk7 ?_; exact ⟨[_], ⟨rfl, trivial⟩, rfl, zU0⟩
     have hRt := vO (by simp [c2]); subst hRt; refine W68 ?_; refine xB ?_; refine W55 ?_; refine W3 ?_; refine bL ?_; refine qk7 ?_; exact ⟨[_], ⟨rfl, trivial⟩, rfl, zU0⟩
    have hRt := vO (by simp [c1]); subst hRt; refine W68 ?_; refine xB ?_; refine W55 ?_; refine W3 ?_; refine bL ?_; refine qk7 ?_; exact ⟨[_], ⟨rfl, trivial⟩, rfl, zU0⟩
   obtain rfl : i = la := by omega
   rw [List.drop_eq_nil_of_le zg, List.drop_eq_nil_of_le zg] at hRd; have : R = false := hRd.symm; subst this; refine vF ?_; exact ⟨[_], ⟨rfl, trivial⟩, rfl, zU0⟩
  have hR : apB T ⟨f, A⟩ ⟨g, B⟩ = true := by unfold apB; rw [if_neg (by simp only; omega)]
  rw [hR]; refine qc 71 fun w0 out => ?_; refine qB8 ?_; refine q9 rfl (uV 4 rfl rfl rfl rfl rfl) ?_; refine gC ?_; exact ⟨[_], ⟨rfl, trivial⟩, rfl, zU0⟩
 have hR : apB T ⟨f, A⟩ ⟨g, B⟩ = true := by unfold apB; rw [if_neg (by simp [hf])]
 rw [hR]; refine qc 71 fun w0 out => ?_; refine qB8 ?_; refine q9 rfl (uV 4 rfl rfl rfl rfl rfl) ?_; refine gC ?_; exact ⟨[_], ⟨rfl, trivial⟩, rfl, zU0⟩
def FT : Fam (List Bool) := ⟨4, 1, 1, fun _ => [], fun r => r.map qN6⟩
theorem q51 : ∀ x : List Bool, ∀ l ∈ FT.it x, l.length = FT.sz := by
 intro x l hl; obtain ⟨_, _, rfl⟩ := List.mem_map.1 hl; rfl
theorem jj7 (r : List Bool) (i : Nat) (v : Bool) : FT.it (r.set i v) = (FT.it r).set i (qN6 v) := by simp [FT, List.map_set]
theorem jQ3 {r : List Bool} {v : Bool} (h : r[i]? = some v) : (FT.it r)[i]? = some (qN6 v) := by simp [FT, h]
theorem qy7 (r : List Bool) : (FT.it r).length = r.length := by simp [FT]
theorem qU5 (r : List Bool) (h : r.length = n) (hn : 0 < n) : (FT.it r).isEmpty = false := by
 cases r with
 | nil => simp at h; omega
 | cons => rfl
theorem jQ4 (k : Nat) (r : List Bool) (h : r.length = n) (hn : 0 < n) : FT.ownV k r = .own k 1 n false := by
 unfold Fam.ownV; rw [qy7, h, qU5 r h hn]; rfl
theorem jQ5 (r : List Bool) (h : r.length = n) (hn : 0 < n) : FT.row r = ⟨4, r.map V.b, false, 1⟩ := by
 unfold Fam.row; rw [qU5 r h hn]
 have : ((FT.it r).flatten.map V.d) = r.map V.b := by
  simp only [FT]; clear h
  induction r with
  | nil => rfl
  | cons x r ih => simp only [map_cons, List.flatten_cons, map_append, ih]; rfl
 rw [this]; rfl
theorem jF5 (k : Nat) (l : List Bool) : V.hasL k (l.map V.b) = false := by
 rw [V.hasL_false]; intro v hv; obtain ⟨_, _, rfl⟩ := List.mem_map.1 hv; rfl
theorem j55 {c : Cx} {s : S} {g : Nat → Nat × Nat} {a : Act} {w : World} {lits : List (Nat × Row)} {row : Row} {f : Bool} {xs : Array Operand} (hu : u.pure) (hv : v.pure) (hs : Sim c g s a w) (hx : xs.toList.map s.ev = ([u, v, .own 901 1 n f] : List V).map some) (hH : s.H = lits ++ FT.objs 1000 T) (vW : lits.all (fun x => decide (x.1 < 1000)) = true)
  (hr : fnd lits 901 = some row) (hf : row.nil = f) (hc : row.cells = FT.cells 1000 T) (hn : T.length = n) (hl : n ≤ 60) (ha : ∀ x ∈ T, x.length = n) : y9 w (fun b => ¬ c.out b) g [u, v, .d (.sl 1 24 (T.map qg8))] (xs.toList.map a.eval) := by
 subst hn; obtain ⟨h1, h2⟩ := uv hs hx; refine ⟨by simpa using h1, fun j z x hz hx => ?_⟩
 match j, hz with
 | 0, hz =>
  simp only [List.getElem?_cons_zero, Option.some.injEq] at hz; subst hz
  exact ((h2 0 _ x rfl hx).repure hu).mono Cells.rfl (fun b hb _ => hb.1) (fun r _ => rfl)
 | 1, hz =>
  simp only [List.getElem?_cons_succ, List.getElem?_cons_zero, Option.some.injEq] at hz; subst hz
  exact ((h2 1 _ x rfl hx).repure hv).mono Cells.rfl (fun b hb _ => hb.1) (fun r _ => rfl)
 | 2, hz =>
  simp only [List.getElem?_cons_succ, List.getElem?_cons_zero, Option.some.injEq] at hz; subst hz
  exact j50 (F := FT) (m := 0) (base := 1000) (btr := 24) hs hH vW hr hf hc (fun _ => rfl) rfl zg q51 (fun x hx => by rw [qy7, ha x hx]; show T.length * 1 ≤ _; omega) (h2 2 _ x rfl hx)
 | j + 3, hz => simp at hz
theorem qU6 (st : Int) (sts : List St) (xZ : sts.length ≤ 60) (hx4 : ∀ x ∈ sts, x.arcs.length ≤ 400) (hxt : ∀ x ∈ sts, ∀ a ∈ x.arcs, 0 ≤ a.t ∧ a.t < sts.length) : Fn prog 22 [mV ⟨st, sts⟩] (fun v => ∃ T, v = .d (.sl 1 24 (T.map qg8)) ∧ tOk sts.length T ∧ ∀ q p, q < sts.length → p < sts.length → (tG T q p = false ↔ sim sts q p)) := by
 have qg9 : tin sts := fun x hx a ha => by have := hxt x hx a ha; omega
 have jQ6 := fun (T0 T : List (List Bool)) (q p : Nat) => Psg.end (T0 := T0) (T := T) (q := q) (p := p) qg9
 obtain ⟨n, hn⟩ : ∃ n, sts.length = n := ⟨_, rfl⟩; rw [hn] at xZ hxt jQ6 ⊢; refine qc 62 fun w0 out => ?_; refine W7 ?_; refine W60 ?_; apply qg; refine qB 4 901 1 51 rfl zT4 ?_; refine zW ?_
 refine qb (fun s' => ∃ (q : Nat) (L : List (List Bool)), q ≤ n ∧ L = List.replicate q (List.replicate n false) ∧ s' = ⟨62, [(1, .ref 1 0), (3, .i n), (4, .own 901 1 q (decide (q = 0))), (5, .i q)], [(1, ⟨24, [.i st, .d (zq sts)], false, 0⟩), (901, ⟨51, FT.cells 1000 L, decide (q = 0), 1⟩)] ++ FT.objs 1000 L, []⟩) (fun s' => n - s'.nat 5) ⟨_, ?_, 0, [], by omega, rfl, rfl⟩ ?_
 ·exact qd
 rintro s' ⟨q, L, hq, hL, rfl⟩; have hLl : L.length = q := by rw [hL]; simp
 by_cases zk : q < n
 ·have hn0 : 0 < n := by omega
  have xM : (FT.cells 1000 L).length = q * 1 := by rw [Fam.cells_len (m := 0) (fun _ => rfl), hLl]
  refine xS ?_; refine q9 rfl (vg 19 V.b (false) underlying51 qa1 rfl rfl rfl rfl rfl zg zj (by first | rfl | (simp only [S.clean, S.put, S.newObj, all_cons, zP, reduceLT]; simp [S.forget, V.has, V.hasL, zV, xg, V.cs, xm, xF, xG, xc, x4, zE, zA, zL, xL, xC, nb1, nb2, nb3, nb4, -map_set]; try omega)) rfl) ?_
  refine q9 rfl (zN (vs := [(0, _)]) (zs := [.nil]) 20 underlying49 q42 rfl rfl zj zj zj rfl rfl rfl rfl (by first | rfl | (simp only [S.clean, S.put, S.newObj, all_cons, zP, reduceLT]; simp [S.forget, V.has, V.hasL, zV, xg, V.cs, xm, xF, xG, xc, x4, zE, zA, zL, xL, xC, nb1, nb2, nb3, nb4, -map_set]; try omega)) rfl rfl) ?_
  refine qf rfl (xK underlying49 q42 rfl zj rfl rfl rfl rfl rfl rfl zT5 (by first | rfl | (simp only [S.clean, S.put, S.newObj, all_cons, zP, reduceLT]; simp [S.forget, V.has, V.hasL, zV, xg, V.cs, xm, xF, xG, xc, x4, zE, zA, zL, xL, xC, nb1, nb2, nb3, nb4, -map_set]; try omega)) rfl rfl rfl rfl rfl rfl rfl zj zg zg rfl) ?_; refine W23 ?_
  refine AW.less (s' := ⟨62, [(1, .ref 1 0), (3, .i n), (4, .own 901 1 (q + 1) false), (5, .i q)], [(1, ⟨24, [.i st, .d (zq sts)], false, 0⟩), (19, ⟨4, (List.replicate n false).map V.b, false, 1⟩), (901, ⟨51, FT.cells 1000 L ++ [.own 19 1 n false], false, 1⟩)] ++ FT.objs 1000 L, []⟩) qd ?_; have hRl : (List.replicate n false).length = n := by simp
  have jd7 := jQ5 (List.replicate n false) hRl hn0; have bC : V.own 19 1 n false = .own 19 FT.sz (FT.it (List.replicate n false)).length (FT.it (List.replicate n false)).isEmpty := by rw [qy7, hRl, qU5 _ hRl hn0]; rfl
  refine jd (F := FT) [_, _, _] 901 19 (List.replicate n false) rfl rfl rfl (by rw [jd7]; rfl) (by rw [bC]; rfl) zj rfl (by simp [V.hasL, V.has]) rfl rfl (by intro y hy zT r hr; simp only [mem_cons, not_mem_nil, or_false] at hy; rcases hy with rfl | rfl | rfl <;> first | exact absurd rfl zT | rfl | exact jF5 _ _) rfl rfl ?_
  refine zC ?_; refine ⟨_, ?_, ⟨q + 1, L ++ [List.replicate n false], by omega, by rw [hL]; simp [List.replicate_succ'], rfl⟩, ?_⟩
  ·exact qd
  exact zM
 obtain rfl : q = n := by omega
 have hL0 : L = fT q := hL; clear hL hLl; refine xS ?_
 refine qF (fun μ s' => ∃ (T : List (List Bool)) (ag : Bool), 2 * nF T + (if ag then 1 else 0) ≤ μ ∧ tOk q T ∧ (qC4 sts fun a b => tG T a b = true) ∧ (ag = false → Psg q sts T q 0 false T) ∧ s' = ⟨62, [(1, .ref 1 0), (3, .i q), (4, .own 901 1 q (decide (q = 0))), (6, .b ag)], [(1, ⟨24, [.i st, .d (zq sts)], false, 0⟩), (901, ⟨51, FT.cells 1000 T, decide (q = 0), 1⟩)] ++ FT.objs 1000 T, []⟩) ⟨_, _, ?_, L, true, le_refl _, by rw [hL0]; exact jX1 q, by rw [hL0]; exact fun a b h => absurd h (jX2 q a b), fun h => (by cases h), rfl⟩ ?_
 ·exact qd
 clear hL0 zk hq; rintro μ s' ⟨T0, ag, hμ, x6, qD7, yS, rfl⟩
 cases ag with
 | false =>
  have ur := jQ6 T0 T0; have hd := yS rfl; have hTl : T0.length = q := x6.1
  have hPa : ∀ x ∈ T0, (FT.it x).length * FT.bt ≤ 140737488355328 := fun x hx => by
   rw [qy7, x6.2 x hx]
   show q * 1 ≤ _
   omega
  refine W75 ?_
  refine jf (F := FT) (m := 0) (base := 1000) (L := T0) [_, _] 901 rfl rfl (by rw [hTl]) rfl (fun _ => rfl) q51 hPa rfl (by intro y hy zT; simp only [mem_cons, not_mem_nil, or_false] at hy; rcases hy with rfl | rfl <;> first | exact absurd rfl zT | (intro r hr; rfl)) rfl rfl ?_
  refine qk 4 24 (T0.map qg8) rfl rfl rfl (by rw [length_map, hTl]) zg (vx (enc := qg8) (sz := 1) (l := T0) (fun _ => rfl) rfl) ?_; refine zC ?_
  exact ⟨[_], ⟨rfl, trivial⟩, ⟨T0, rfl, x6, fun a b ha hb => ur a b hd ha hb⟩, zU2⟩
 | true =>
  clear yS; simp only [if_true] at hμ; have hp0 := Psg.begin x6 qD7; clear x6 qD7; refine vF ?_
  refine qb (fun s' => ∃ (a : Nat) (ag : Bool) (T : List (List Bool)), a ≤ q ∧ Psg q sts T0 a 0 ag T ∧ s' = ⟨62, [(1, .ref 1 0), (3, .i q), (4, .own 901 1 q (decide (q = 0))), (6, .b ag), (7, .i a)], [(1, ⟨24, [.i st, .d (zq sts)], false, 0⟩), (901, ⟨51, FT.cells 1000 T, decide (q = 0), 1⟩)] ++ FT.objs 1000 T, []⟩) (fun s' => q - s'.nat 7) ⟨_, ?_, 0, false, T0, by omega, hp0, rfl⟩ ?_
  ·exact qd
  clear hp0; rintro s' ⟨a, ag, T, ha, hP, rfl⟩
  by_cases qD8 : a < q
  ·have hnf : decide (q = 0) = false := by simp; omega
   rw [hnf]; obtain ⟨x, hx⟩ := zl hn qD8; refine vF ?_
   refine qb (fun s' => ∃ (b : Nat) (ag : Bool) (T : List (List Bool)), b ≤ q ∧ Psg q sts T0 a b ag T ∧ s' = ⟨62, [(1, .ref 1 0), (3, .i q), (4, .own 901 1 q false), (6, .b ag), (7, .i a), (8, .i b)], [(1, ⟨24, [.i st, .d (zq sts)], false, 0⟩), (901, ⟨51, FT.cells 1000 T, false, 1⟩)] ++ FT.objs 1000 T, []⟩) (fun s' => q - s'.nat 8) ⟨_, ?_, 0, ag, T, by omega, hP, rfl⟩ ?_
   ·exact qd
   clear hP; rintro s' ⟨b, ag, T, hb, hP, rfl⟩
   by_cases q68 : b < q
   ·obtain ⟨y, hy⟩ := zl hn q68
    have hTl := hP.ok.1; have hTr := hP.ok.2; obtain ⟨r, hr, hrl, hrg⟩ := hP.ok.row qD8; have hg := hrg b q68; clear hrg; have f1 := jQ3 hg; have o1 := jQ4 (1000 + a) r hrl zg; have i1 : a < T.length := by omega
    cases hgv : tG T a b with
    | true =>
     have hs := hP.skip hx hy (.inl hgv); rw [hgv] at f1 hg; clear hP; refine W53 ?_; refine W38 ?_; refine AD1.rd rfl rfl rfl (fun _ _ h => h) (xH (m := 0) underlying51 rfl rfl rfl rfl rfl rfl (fun _ => rfl) rfl zm zm) ?_; refine zR ?_; refine AD1.rd rfl rfl rfl (fun _ _ h => h) (xx (F := FT) (lits := [_, _]) (i := b) (j := 0) underlying4 rfl rfl rfl rfl rfl zm rfl zm (q51) rfl) ?_; refine xS ?_
     refine qm ?_; refine jh rfl rfl rfl rfl rfl ?_; refine qK rfl rfl rfl (qb8 rfl rfl rfl) ?_; refine ja ?_; refine jb9 ?_; refine ⟨_, ?_, ⟨b + 1, ag, T, by omega, hs, rfl⟩, ?_⟩
     ·exact qd
     exact zM
    | false =>
     have qp7 := ju6 q T hP.ok x y (hx4 x (mem_of_getElem? hx)) (hxt x (mem_of_getElem? hx)) (hxt y (mem_of_getElem? hy)); obtain ⟨xf, xa⟩ := x; obtain ⟨yf, ya⟩ := y
     cases hap : apB T ⟨xf, xa⟩ ⟨yf, ya⟩ with
     | true =>
      have hs := hP.put qD8 q68 hx hy hgv hap; have wJ : tP T a b = T.set a (r.set b true) := by unfold tP; rw [hr]; rfl
      rw [wJ] at hs; rw [hap] at qp7; rw [hgv] at f1 hg; clear hP wJ; refine W53 ?_; refine W38 ?_; refine AD1.rd rfl rfl rfl (fun _ _ h => h) (xH (m := 0) underlying51 rfl rfl rfl rfl rfl rfl (fun _ => rfl) rfl zm zm) ?_; refine zR ?_; refine AD1.rd rfl rfl rfl (fun _ _ h => h) (xx (F := FT) (lits := [_, _]) (i := b) (j := 0) underlying4 rfl rfl rfl rfl rfl zm rfl zm (q51) rfl) ?_; refine xS ?_
      refine qm ?_
      (refine qR (post := ?pc209) rfl rfl rfl (qP4 (args := ?ac209) ?hc209 ?qc209 ⟨func50, rfl, rfl, rfl, rfl⟩ rfl rfl ?rc209 rfl) ?_; (case hc209 => (exact qp7)); (case qc209 => ((intro v hv; subst hv; first | trivial | (simp [V.plain]; done)))); (case rc209 => (exact fun g a w hs => j55 (lits := [_, _]) zT8 zT8 hs rfl rfl rfl rfl rfl rfl hTl xZ hTr)); rintro _ rfl -; try dsimp only)
      refine W94 ?_; refine zC ?_; refine AL.rd rfl rfl (xH (m := 0) underlying51 rfl rfl rfl rfl rfl rfl (fun _ => rfl) rfl zm zm) ?_; refine zR ?_; refine qf rfl (bh (F := FT) (lits := [_, _]) (x0 := r) (rb := 901) (i := b) (j := 0) (r.set b true) qa1 rfl rfl rfl rfl rfl rfl rfl rfl zm rfl zm zj (q51) rfl rfl (by rw [jj7]; rfl)) ?_; refine qP8 ?_; refine xX ?_
      refine ⟨_, ?_, ⟨b + 1, true, _, by omega, hs, rfl⟩, ?_⟩
      ·exact qd
      exact zM
     | false =>
      have hs := hP.skip hx hy (.inr hap); rw [hap] at qp7; rw [hgv] at f1 hg; clear hP; refine W53 ?_; refine W38 ?_; refine AD1.rd rfl rfl rfl (fun _ _ h => h) (xH (m := 0) underlying51 rfl rfl rfl rfl rfl rfl (fun _ => rfl) rfl zm zm) ?_; refine zR ?_
      refine AD1.rd rfl rfl rfl (fun _ _ h => h) (xx (F := FT) (lits := [_, _]) (i := b) (j := 0) underlying4 rfl rfl rfl rfl rfl zm rfl zm (q51) rfl) ?_; refine xS ?_; refine qm ?_
      (refine qR (post := ?pc210) rfl rfl rfl (qP4 (args := ?ac210) ?hc210 ?qc210 ⟨func50, rfl, rfl, rfl, rfl⟩ rfl rfl ?rc210 rfl) ?_; (case hc210 => (exact qp7)); (case qc210 => ((intro v hv; subst hv; first | trivial | (simp [V.plain]; done)))); (case rc210 => (exact fun g a w hs => j55 (lits := [_, _]) zT8 zT8 hs rfl rfl rfl rfl rfl rfl hTl xZ hTr)); rintro _ rfl -; try dsimp only)
      refine W94 ?_; refine x8 ?_; refine ⟨_, ?_, ⟨b + 1, ag, T, by omega, hs, rfl⟩, ?_⟩
      ·exact qd
      exact zM
   obtain rfl : b = q := by omega
   refine xS ?_; refine ⟨_, ?_, ⟨a + 1, ag, T, by omega, hP.row, rfl⟩, ?_⟩
   ·exact qd
   exact zM
  obtain rfl : a = q := by omega
  have hle := hP.le; have zk := hP.lt; have uJ := hP.old; refine xB ?_; refine ⟨μ - 1, _, ?_, ⟨T, ag, ?_, hP.ok, hP.tel, fun h => ?_, rfl⟩, ?_⟩
  ·exact qd
  ·grind
  ·grind
  omega
end Go.Proofs.YthiknkcigcglkaaGreatDoor
