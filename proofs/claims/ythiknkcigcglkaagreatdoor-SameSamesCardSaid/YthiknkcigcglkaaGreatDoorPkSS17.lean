/- Part 17 of what the law SameSames rests on. -/
import Derived.Test.YthiknkcigcglkaaGreatDoorPkSS13
import Derived.Test.YthiknkcigcglkaaGreatDoorPkSS14
import Derived.Test.YthiknkcigcglkaaGreatDoorPkSS15
namespace Go.Proofs.YthiknkcigcglkaaGreatDoor
open Go.RowKit
open Go.Proofs.Tryz
open List (all_cons cons_append drop_eq_getElem_cons drop_zero ext_getElem? length_map map_set mem_map mem_of_getElem? nil_append take_of_length_le)
open Nat (le_refl le_trans reduceLT zero_add)
open Option (map_some)
set_option linter.unusedSimpArgs false
set_option linter.unusedVariables false
set_option maxRecDepth 100000
set_option maxHeartbeats 8000000
variable {s : S} {H1 lits : List (Nat × Row)} {i n : Nat} {m : zr}
structure BOk (ty : TypeId) : Prop where
 c0 : 0 < prog.cellsOf ty
 c2 : prog.cellsOf ty ≤ 2
 row : rowAt prog (fun x => sameLayout prog prog.depth x 114) prog.depth ty 1 0 1 = true
abbrev bT (ty : TypeId) (z : Bool) (s : ByteArray) (H0 : List (Nat × Row)) : List (Nat × Row) := (900, ⟨ty, [.ref 900 0, .own 901 1 s.size z], false, 0⟩) :: (901, ⟨5, yK s, z, 1⟩) :: H0
abbrev bF (ty : TypeId) (z : Bool) (s : ByteArray) (H0 : List (Nat × Row)) : List (Nat × Row) := (900, ⟨ty, [.d (.p (.pointer none)), .own 901 1 s.size z], false, 0⟩) :: (901, ⟨5, yK s, z, 1⟩) :: H0
def bH (ty : TypeId) (a z : Bool) (s : ByteArray) (H0 : List (Nat × Row)) : List (Nat × Row) := match a with
 | true => bT ty z s H0
 | false => bF ty z s H0
section
variable {ty : TypeId} {H0 : List (Nat × Row)} {K : List V}
theorem jv3 (hk : BOk ty) (z : Bool) (s : ByteArray) (hl : Lw H0 K) : PC prog 118 [.ref 900 0] (bF ty z s H0) K (fun v H' K' => v = .tup [] ∧ H' = bT ty z s H0 ∧ K' = K) := by
 obtain ⟨k0, k1, k2⟩ := hk; refine PC.intro (n := 20) ⟨func118, rfl, rfl, rfl, rfl⟩ zx fun w0 out kx => AW.weaken ?_; simp only [vV]; refine zR ?_; refine qe rfl rfl (gm rfl rfl) ?_; refine zR ?_; refine qe rfl rfl (j17 underlying111 rfl rfl rfl) ?_; refine zC ?_; refine AL.rd rfl rfl (qT4 underlying111 underlying181 qk4 zj rfl rfl rfl rfl (by first | decide | exact Nat.succ_pos _)) ?_
 refine qe rfl rfl (j20 func132 zh zh zh zh rfl rfl rfl) ?_; refine AL.rd rfl rfl (qD4 underlying181 underlying111 qk4 rfl rfl rfl rfl (by first | assumption | exact Nat.le_of_ble_eq_true zh) (by first | assumption | exact Nat.le_of_ble_eq_true zh) (by first | assumption | kernel_rfl)) ?_; refine W62 ?_; refine qf rfl (vA jh6 rfl rfl rfl rfl rfl rfl rfl zT7 rfl) ?_; refine Dv ?_
 exact ⟨_, Less.hp (T := []) trivial rfl rfl (fun k row h => hl.low (T := [_, _, _]) (by rfl) k row h), [], trivial, rfl, rfl, rfl⟩
theorem jv4 (hk : BOk ty) (z : Bool) (s : ByteArray) (hl : Lw H0 K) : PC prog 118 [.ref 900 0] (bT ty z s H0) K (fun v H' K' => v = .tup [] ∧ H' = bT ty z s H0 ∧ K' = K) := by
 obtain ⟨k0, k1, k2⟩ := hk; refine PC.intro (n := 20) ⟨func118, rfl, rfl, rfl, rfl⟩ zx fun w0 out kx => AW.weaken ?_; simp only [vV]; refine zR ?_; refine qe rfl rfl (gm rfl rfl) ?_; refine zR ?_; refine qe rfl rfl (j18 underlying111 rfl rfl rfl) ?_; refine zW ?_; refine jq7 ?_; refine qe rfl rfl (qT2 underlying111 qk4 rfl rfl rfl) ?_; refine xd ?_
 exact ⟨_, Less.hp (T := []) trivial rfl rfl (fun k row h => hl.low (T := [_, _]) (by rfl) k row h), [], trivial, rfl, rfl, rfl⟩
theorem j64 (hk : BOk ty) (a z : Bool) (s : ByteArray) (hl : Lw H0 K) : PC prog 118 [.ref 900 0] (bH ty a z s H0) K (fun v H' K' => v = .tup [] ∧ H' = bT ty z s H0 ∧ K' = K) := by
 cases a
 ·exact jv3 hk z s hl
 exact jv4 hk z s hl
theorem gh (hk : BOk ty) (a z : Bool) (s t : ByteArray) (hl : Lw H0 K) (ht : 0 < t.size) (xR : s.size + t.size ≤ 140737488355328) : PC prog 81 [.ref 900 0, .s t] (bH ty a z s H0) K (fun v H' K' => v = .tup [.i (t.size : Int), .d (.p .nilIface)] ∧ H' = bT ty false (s ++ t) H0 ∧ K' = K) := by
 have hcp := fun K (hl : Lw H0 K) => j64 hk a z s hl
 have hsl := qe7 s; refine PC.intro (n := 19) ⟨func81, rfl, rfl, rfl, rfl⟩ zx fun w0 out kx => AW.weaken ?_; simp only [vV]; refine zY ?_; refine gE ?_; refine qQ [0, 1] (ts := [_, _]) (args := [_]) (post := ?pc0) ?hc0 rfl rfl rfl rfl rfl rfl rfl rfl rfl ?_
 case hc0 => (refine hcp _ (hl.keepL _ ?_) <;> first | rfl | (simp [V.lowL, V.low]; done))
 rintro _ _ _ ⟨rfl, rfl, rfl⟩; refine jL4 ?_; refine jq7 ?_; refine qf rfl (qB6 underlying112 underlying9 jb2 rfl rfl rfl rfl rfl rfl rfl zT5 (by exact bJ _ _) rfl zT9 zT9 rfl) ?_; refine W45 ?_; refine W62 ?_; refine qf rfl (vA qP1 rfl rfl rfl rfl rfl rfl rfl zT7 rfl) ?_; refine xd ?_; refine qe rfl rfl (ja7 underlying9 rfl rfl) ?_; refine zW ?_
 refine ⟨_, Less.hp (T := [(4, _), (5, _)]) ⟨⟨_, rfl, Wk.refl _⟩, ⟨_, rfl, Wk.refl _⟩, trivial⟩ rfl rfl (fun k row h => hl.low (T := [_, _, _]) (by rfl) k row h), [_, _], ⟨rfl, rfl, trivial⟩, rfl, ?_, rfl⟩
 show (900, (⟨ty, [.ref 900 0, .own 901 1 (s.size + t.size) false], false, 0⟩ : Row)) :: (901, ⟨5, yK s ++ yK t, false, 1⟩) :: H0 = _
 rw [← qP5, ← ByteArray.size_append]
theorem qV3 (hk : BOk ty) (a z : Bool) (s : ByteArray) (c : UInt8) (hl : Lw H0 K) (xR : s.size + 1 ≤ 140737488355328) : PC prog 82 [.ref 900 0, .d (.p (.int .u8 (c.toNat : Int)))] (bH ty a z s H0) K (fun v H' K' => H' = bT ty false (s ++ ⟨#[c]⟩) H0 ∧ K' = K) := by
 have hcp := fun K (hl : Lw H0 K) => j64 hk a z s hl
 have hsl : (yK s).length = s.size * 1 := by rw [qe7]; omega
 refine PC.intro (n := 17) ⟨func82, rfl, rfl, rfl, rfl⟩ zx fun w0 out kx => AW.weaken ?_; simp only [vV]; refine zC ?_; refine gE ?_; refine qQ [0, 1] (ts := [_, _]) (args := [_]) (post := ?pc1) ?hc1 rfl rfl rfl rfl rfl rfl rfl rfl rfl ?_
 case hc1 => (refine hcp _ (hl.keepL _ ?_) <;> first | rfl | (simp [V.lowL, V.low]; done))
 rintro _ _ _ ⟨rfl, rfl, rfl⟩; refine jL4 ?_; refine jq7 ?_
 refine q9 rfl (zN (vs := [(0, _)]) (zs := [.d (.p (.int .u8 0))]) 910 underlying112 jb2 rfl rfl zj zj zj rfl rfl rfl rfl (by (refine S.clean_hp (L := [_, _]) hl zj ?_ ?_ <;> simp [S.put, S.newObj, S.forget, vV, V.has, V.hasL, zV, xg, V.cs, xm, xF, xG, xc, x4, zE, zA, bJ, -map_set])) rfl rfl) ?_
 refine qf rfl (xK underlying112 jb2 rfl zj rfl rfl rfl rfl rfl rfl zT5 (by simp [S.put, S.newObj, S.forget, vV, V.has, V.hasL, zV, xg, V.cs, xm, xF, xG, xc, x4, zE, zA, bJ, -map_set]) rfl rfl rfl rfl rfl rfl rfl zj zg zg rfl) ?_; refine W45 ?_; refine W62 ?_; refine qf rfl (vA qP1 rfl rfl rfl rfl rfl rfl rfl zT7 rfl) ?_; refine zC ?_
 refine ⟨_, Less.hp (T := [(4, _)]) ⟨⟨_, rfl, Wk.refl _⟩, trivial⟩ rfl rfl (fun k row h => hl.low (T := [_, _, _, _]) (by rfl) k row h), [_], ⟨rfl, trivial⟩, ?_, rfl⟩
 show (900, (⟨ty, [.ref 900 0, .own 901 1 (s.size + (⟨#[c]⟩ : ByteArray).size) false], false, 0⟩ : Row)) :: (901, ⟨5, yK s ++ yK ⟨#[c]⟩, false, 1⟩) :: H0 = _
 rw [← qP5, ← ByteArray.size_append]
theorem Less.same (s : S) : Less s s := ⟨rfl, fun i v h => ⟨v, h, .refl _⟩, fun k row h => ⟨row, h, rfl, rfl, rfl, fun j v hv => ⟨v, hv, .refl _⟩⟩, fun j v h => ⟨v, h, .refl _⟩⟩
theorem Less.h0 {T : List (Nat × V)} (hT : LT s T) (h3 : ∀ k row, fnd H1 k = some row → fnd s.H k = some row) : Less ⟨s.n, T, H1, s.K⟩ s :=
 ⟨rfl, fun i v h => hT.get i v h, fun k row h => ⟨row, h3 k row h, rfl, rfl, rfl, fun j v hv => ⟨v, hv, .refl _⟩⟩, fun j v h => ⟨v, h, .refl _⟩⟩
theorem qJ7 (z : Bool) (s : ByteArray) (a : Bool) (hl : Lw H0 K) (hz : z = true ↔ s.size = 0) (xR : s.size ≤ 140737488355328) : PC prog 83 [.ref 900 0] (bH ty a z s H0) K (fun v H' K' => v = .s s ∧ H' = H0 ∧ K' = K) := by
 cases z with
 | true =>
  have h0 : s.size = 0 := hz.1 rfl
  have hs : s = ⟨#[]⟩ := by
   cases s with | mk x =>
   congr 1
   exact Array.eq_empty_of_size_eq_zero h0
  cases a
  all_goals
   refine PC.intro (n := 14) ⟨func83, rfl, rfl, rfl, rfl⟩ zx fun w0 out kx => AW.weaken ?_; simp only [vV, bH]; refine W81 ?_; refine jK9 ?_; refine qP7 ?_; refine zR ?_; refine qw rfl rfl rfl (fun _ _ h => h) (qM6 rfl rfl) ?_; refine Dv ?_; refine qP7 ?_; refine xd ?_; refine W85 ?_; refine qH rfl rfl rfl rfl (ju4 rfl rfl rfl zg) ?_; refine qH rfl rfl rfl rfl (yE rfl rfl) ?_; refine W10 ?_
   apply qM
   exact ⟨_, Less.h0 (T := [(2, _)]) ⟨⟨_, rfl, Wk.refl _⟩, trivial⟩ (fun k row h => hl.low (T := [_, _]) (by rfl) k row h), [_], ⟨rfl, trivial⟩, by rw [hs]; rfl, rfl, rfl⟩
 | false =>
  have h0 : 0 < s.size := by grind
  cases a
  all_goals
   refine PC.intro (n := 14) ⟨func83, rfl, rfl, rfl, rfl⟩ zx fun w0 out kx => AW.weaken ?_; simp only [vV, bH]; refine W81 ?_; refine jK9 ?_; refine qP7 ?_; refine zR ?_; refine qw rfl rfl rfl (fun _ _ h => h) (qU2 rfl rfl zT9) ?_; refine Dv ?_; refine qP7 ?_; refine xd ?_; refine W85 ?_; refine qo rfl rfl rfl (jF2 underlying167 zh rfl rfl rfl rfl zT9 zT9 rfl rfl rfl rfl rfl) ?_
   refine qH rfl rfl rfl rfl (yE rfl rfl) ?_; refine W10 ?_; apply qM
   exact ⟨_, Less.h0 (T := [(2, _)]) ⟨⟨_, rfl, Wk.refl _⟩, trivial⟩ (fun k row h => by
    have hk : k ≠ 901 := by
     rintro rfl; rw [hl.fnd 901 zj] at h
     cases h
    refine (yA 901 _ _ hk).trans ?_
    exact hl.low (T := [_, _]) (by rfl) k row h), [_], ⟨rfl, trivial⟩, rfl, rfl, rfl⟩
end
theorem qV4 (a b : List Nat) (n : Nat) (xZ : n ≤ 60) (ha : a.length = n) (hb : b.length = n) : Fn prog 60 [.d (.sl 1 8 (a.map vp)), .d (.sl 1 8 (b.map vp))] (fun v => v = .b (decide (a = b))) := by
 obtain ⟨r, hr⟩ : ∃ r, decide (a = b) = r := ⟨_, rfl⟩; have h0 : decide (a.drop 0 = b.drop 0) = r := by rw [drop_zero, drop_zero]; exact hr
 rw [hr]; clear hr; refine qc 21 fun w0 out => ?_; refine xB ?_; refine qb (fun s' => ∃ k : Nat, k ≤ n ∧ decide (a.drop k = b.drop k) = r ∧ s' = ⟨21, [(0, .d (.sl 1 8 (a.map vp))), (1, .d (.sl 1 8 (b.map vp))), (5, .i k)], [], []⟩) (fun s' => n - s'.nat 5) ⟨_, ?_, 0, by omega, h0, rfl⟩ ?_
 ·exact q8
 clear h0; rintro s' ⟨k, hk, hr, rfl⟩
 by_cases zk : k < n
 ·obtain ⟨x, hx⟩ := zl ha zk
  obtain ⟨y, hy⟩ := zl hb zk; have e1 : a.drop k = x :: a.drop (k + 1) := by grind [List.getElem?_eq_some_iff, drop_eq_getElem_cons]
  have e2 : b.drop k = y :: b.drop (k + 1) := by grind [List.getElem?_eq_some_iff, drop_eq_getElem_cons]
  rw [e1, e2] at hr; clear e1 e2
  by_cases hxy : x = y
  ·have hr2 : decide (a.drop (k + 1) = b.drop (k + 1)) = r := by
    rw [← hr]; subst hxy
    exact decide_eq_decide.2 ⟨fun h => by rw [h], fun h => (List.cons.inj h).2⟩
   clear hr; refine xu ?_; refine W22 ?_; refine xX ?_; refine W44 ?_; refine ⟨_, ?_, ⟨k + 1, by omega, hr2, rfl⟩, ?_⟩
   ·exact q8
   exact zM
  have hr2 : r = false := by grind
  subst hr2; refine xu ?_; refine W22 ?_; refine xX ?_; refine qk7 ?_; exact ⟨[_], ⟨rfl, trivial⟩, rfl, zU0⟩
 obtain rfl : k = n := by omega
 rw [List.drop_eq_nil_of_le zg, List.drop_eq_nil_of_le zg] at hr; have hr2 : r = true := by rw [← hr]; rfl
 subst hr2; refine xS ?_; exact ⟨[_], ⟨rfl, trivial⟩, rfl, zU0⟩
theorem je6 (a : List Nat) (xZ : a.length ≤ 60) : Fn prog 59 [.d (.sl 1 8 (a.map vp))] (fun v => v = .i (mnL a)) := by
 have gI := yz; obtain ⟨n, ha⟩ : ∃ n, a.length = n := ⟨_, rfl⟩; rw [ha] at xZ; have hB : ((1152921504606846976 : Int)) = ((mnL (a.take 0) : Nat) : Int) := rfl; refine qc 22 fun w0 out => ?_; refine xu ?_
 refine qb (fun s' => ∃ (k : Nat) (v : Int), k ≤ n ∧ v = mnL (a.take k) ∧ s' = ⟨22, [(0, .d (.sl 1 8 (a.map vp))), (3, .i v), (4, .i k)], [], []⟩) (fun s' => n - s'.nat 4) ⟨_, ?_, 0, 1152921504606846976, by omega, hB, rfl⟩ ?_
 ·exact q8
 clear hB; rintro s' ⟨k, v, hk, hv, rfl⟩
 by_cases zk : k < n
 ·obtain ⟨x, hx⟩ := zl ha zk
  have hs := js8 hx
  by_cases hxv : (x : Int) < v
  ·rw [if_pos zg] at hs
   iterate 32 refine Dv ?_
   refine ⟨_, ?_, ⟨k + 1, x, by omega, by rw [hs], rfl⟩, ?_⟩
   ·exact q8
   exact zM
  rw [if_neg zg] at hs
  iterate 26 refine Dv ?_
  refine ⟨_, ?_, ⟨k + 1, v, by omega, by rw [hs]; exact hv, rfl⟩, ?_⟩
  ·exact q8
  exact zM
 obtain rfl : k = n := by omega
 rw [take_of_length_le zg] at hv; subst hv; refine vF ?_; exact ⟨[_], ⟨rfl, trivial⟩, rfl, zU0⟩
theorem jk6 (st : Int) (sts : List St) (d : List Nat) (i o : Int) (n : Nat) (xZ : n ≤ 60) (hn : sts.length = n) (hd : d.length = n) (hdb : ∀ x ∈ d, x = big ∨ x ≤ 1000000000000) (hx4 : ∀ x ∈ sts, x.arcs.length ≤ 400) (x6 : ∀ x ∈ sts, ∀ a ∈ x.arcs, xl n a = true) : FnO prog 58 [mV ⟨st, sts⟩, .d (.sl 1 8 (d.map vp)), .i i, .i o] (fun v H => v = .own 901 1 n false ∧ H = [(901, ⟨3, (bhD sts d i o).map V.n, false, 1⟩)]) := by
 have gI := yz; refine FnO.intro (n := 106) ⟨func58, rfl, rfl, rfl, rfl⟩ zT8 zx fun w0 out => ?_; apply qr; refine q9 rfl (uV 4 rfl rfl rfl rfl rfl) ?_; refine zC ?_; refine q9 rfl (vg 901 V.i (0) underlying42 zz rfl rfl rfl rfl rfl zg zj rfl rfl) ?_; refine x8 ?_
 refine qb (fun s' => ∃ (k : Nat) (R : List Nat), k ≤ n ∧ R.length = n ∧ (∀ j, j < k → R[j]? = some big) ∧ s' = ⟨106, [(1, .d (.sl 1 8 (d.map vp))), (2, .i i), (3, .i o), (4, .ref 4 0), (9, .own 901 1 n false), (10, .i k)], [(4, ⟨24, [.i st, .d (zq sts)], false, 0⟩), (901, ⟨3, R.map V.n, false, 1⟩)], []⟩) (fun s' => n - s'.nat 10) ⟨_, ?_, 0, List.replicate n 0, by omega, by simp, (fun j h => absurd h zg), rfl⟩ ?_
 ·have hz : (List.replicate n (0 : Int)).map V.i = (List.replicate n 0).map V.n := by simp
  rw [hz] ; exact q8
 rintro s' ⟨k, R, hk, hRl, hR, rfl⟩
 by_cases zk : k < n
 ·have hkR : k < R.length := by omega
  refine uq ?_; refine qf rfl (zX (v := big) zz rfl rfl rfl rfl rfl rfl rfl rfl zT9) ?_; refine zY ?_; refine ⟨_, ?_, ⟨k + 1, R.set k big, by omega, by simpa using hRl, fun j hj => ?_, rfl⟩, ?_⟩
  ·exact q8
  ·grind
  exact zM
 obtain rfl : k = n := by omega
 have hR0 : R = bhR sts d i o 0 := by
  refine ext_getElem? fun j => ?_
  by_cases hj : j < k
  ·unfold bhR
   rw [hR j hj, w8 zg]; rfl
  grind [List.getElem?_eq_none, bhR, bl]
 clear hR hRl; refine vF ?_; refine qb (fun s' => ∃ (q : Nat), q ≤ k ∧ s' = ⟨106, [(1, .d (.sl 1 8 (d.map vp))), (2, .i i), (3, .i o), (4, .ref 4 0), (9, .own 901 1 k false), (11, .i q)], [(4, ⟨24, [.i st, .d (zq sts)], false, 0⟩), (901, ⟨3, (bhR sts d i o q).map V.n, false, 1⟩)], []⟩) (fun s' => k - s'.nat 11) ⟨_, ?_, 0, by omega, rfl⟩ ?_
 ·rw [← hR0]; exact q8
 clear hR0 zk hk R; rintro s' ⟨q, hq, rfl⟩
 by_cases jR2 : q < k
 ·obtain ⟨x, hx⟩ := zl hn jR2
  obtain ⟨c, hc⟩ := zl hd jR2; obtain ⟨la, xr⟩ : ∃ la, x.arcs.length = la := ⟨_, rfl⟩; have k65 := hx4 x (mem_of_getElem? hx); rw [xr] at k65; have hxa := x6 x (mem_of_getElem? hx); have hcb := hdb c (mem_of_getElem? hc); have hz := qS4 sts d i o c q x.arcs; refine gC ?_
  refine qb (fun s' => ∃ (j : Nat), j ≤ la ∧ (c = big → j = 0) ∧ s' = ⟨106, [(1, .d (.sl 1 8 (d.map vp))), (2, .i i), (3, .i o), (4, .ref 4 0), (9, .own 901 1 k false), (11, .i q), (12, .d (zU x.arcs)), (13, .i j)], [(4, ⟨24, [.i st, .d (zq sts)], false, 0⟩), (901, ⟨3, (bhM sts d i o c q j x.arcs).map V.n, false, 1⟩)], []⟩) (fun s' => la - s'.nat 13) ⟨_, ?_, 0, by omega, (fun _ => rfl), rfl⟩ ?_
  ·rw [hz]; exact q8
  clear hz; rintro s' ⟨j, hj, hj0, rfl⟩
  by_cases qu0 : c = big
  ·obtain rfl := hj0 qu0
   subst qu0; have hz := js7 (sts := sts) (i := i) (o := o) hc; have hz2 := qS4 sts d i o big q x.arcs; rw [hz2]; have hbi : ((big : Nat) : Int) = 1152921504606846976 := rfl
   by_cases hl0 : 0 < la
   ·skip
    iterate 21 refine Dv ?_
    refine ⟨_, ?_, ⟨q + 1, by omega, rfl⟩, ?_⟩
    ·rw [hz]; exact q8
    exact zM
   skip
   iterate 21 refine Dv ?_
   refine ⟨_, ?_, ⟨q + 1, by omega, rfl⟩, ?_⟩
   ·rw [hz]; exact q8
   exact zM
  have kb7 : c ≤ 1000000000000 := by omega
  by_cases qV5 : j < la
  ·obtain ⟨a, ha⟩ := zl xr qV5
   have h3 := hxa a (mem_of_getElem? ha); simp only [xl, decide_eq_true_eq] at h3; obtain ⟨ai, ao, aw, at'⟩ := a; simp only at h3; obtain ⟨w, rfl⟩ := Int.eq_ofNat_of_zero_le h3.2.2.1.1; obtain ⟨p, rfl⟩ := Int.eq_ofNat_of_zero_le h3.2.2.2.1; have wa : p < k := by omega
   have hMl : (bhM sts d i o c q j x.arcs).length = k := by simp [bhM, bl, hd]
   have hpM : p < (bhM sts d i o c q j x.arcs).length := by omega
   have hpv : (bhM sts d i o c q j x.arcs)[p]? = some (bhA i o c p (bhS sts d i o p q) (x.arcs.take j)) := w8 zg; have hpb := le_trans (qS2 i o c p (bhS sts d i o p q) (x.arcs.take j)) (qS3 sts d i o p q); have wb := js6 (sts := sts) (d := d) (i := i) (o := o) (c := c) (k := q) ha; have qb3 := jE6 (sts := sts) (d := d) (i := i) (o := o) (c := c) (k := q) (p := p) ha zg
   simp only [Int.toNat_natCast] at wb qb3; obtain ⟨v, hvd⟩ : ∃ v, bhA i o c p (bhS sts d i o p q) (x.arcs.take j) = v := ⟨_, rfl⟩; rw [hvd] at hpv hpb qb3; obtain ⟨M, hM⟩ : ∃ M, bhM sts d i o c q j x.arcs = M := ⟨_, rfl⟩; rw [hM] at hpv hMl hpM wb qb3 ⊢
   have hj1 : c = big → j + 1 = 0 := fun h => absurd h qu0
   by_cases c1 : ai = i
   ·by_cases c2 : ao = o
    ·by_cases c3 : c + w < v
     ·have hs := qb3 c1 c2 trivial c3
      clear wb qb3 hM; refine yB ?_; apply qg; refine W13 ?_; refine W16 ?_; refine Dv ?_; refine qi [(0, true), (1, true), (2, true), (3, true), (4, true), (5, true), (6, true), (7, true), (8, true), (9, true), (10, true), (11, true), (12, true), (13, true), (14, true), (15, true), (16, true), (17, false)] (fun i => !([17] : List Nat).contains i) 18 zh zh rfl zh ?_; refine uy ?_; refine W85 ?_
      refine qo rfl rfl rfl (zX (v := c + w) zz rfl rfl rfl rfl rfl rfl rfl rfl zT9) ?_; refine qf1 ?_; refine ⟨_, ?_, ⟨j + 1, by omega, hj1, rfl⟩, ?_⟩
      ·rw [← hs]; exact q8
      exact zM
     have hs := wb fun q' hq' ⟨_, _, e3, e4⟩ => by grind
     clear wb qb3 hM; refine yB ?_; apply qg; refine W13 ?_; refine W44 ?_; refine ⟨_, ?_, ⟨j + 1, by omega, hj1, rfl⟩, ?_⟩
     ·rw [hs]; exact q8
     exact zM
    have hs := wb fun q' hq' ⟨_, e2, _⟩ => c2 e2
    clear wb qb3 hM; refine yB ?_; apply qg; refine W13 ?_; refine W44 ?_; refine ⟨_, ?_, ⟨j + 1, by omega, hj1, rfl⟩, ?_⟩
    ·rw [hs]; exact q8
    exact zM
   have hs := wb fun q' hq' ⟨e1, _⟩ => c1 e1
   clear wb qb3 hM; refine yB ?_; apply qg; refine W13 ?_; refine W44 ?_; refine ⟨_, ?_, ⟨j + 1, by omega, hj1, rfl⟩, ?_⟩
   ·rw [hs]; exact q8
   exact zM
  have he := jE7 (i := i) (o := o) (j := j) hx hc qu0 zg
  iterate 21 refine Dv ?_
  refine ⟨_, ?_, ⟨q + 1, by omega, rfl⟩, ?_⟩
  ·rw [← he]; exact q8
  exact zM
 obtain rfl : q = k := by omega
 have hL : (bhR sts d i o q).length = q := by simp [bhR, bl, hd]
 have ur : bhR sts d i o q = bhD sts d i o := by unfold bhR bhD; rw [hd]
 rw [ur] at hL ⊢; refine vF ?_
 exact ⟨[_], [(901, ⟨3, (bhD sts d i o).map V.n, false, 1⟩)], ⟨rfl, trivial⟩, ⟨rfl, trivial⟩, ⟨rfl, rfl⟩, by simp [zZ, V.has, V.hasL], fun r row j h1 h2 => by
  simp only [fnd, beq_iff_eq] at h1
  split at h1
  ·cases h1; rw [xc] at h2; cases h2
  cases h1⟩
theorem uI : ∀ x : St, ∀ l ∈ FS.it x, l.length = FS.sz := by grind [FS]
theorem qJ8 (f : Int) (A : List Ar) (i : Nat) (y : Ar) : FS.it ⟨f, A.set i y⟩ = (FS.it ⟨f, A⟩).set i (arD y) := by simp [FS, List.map_set]
theorem qJ9 {f : Int} {A : List Ar} {y : Ar} (h : A[i]? = some y) : (FS.it ⟨f, A⟩)[i]? = some (arD y) := by simp [FS, h]
theorem qK0 (f : Int) (A : List Ar) : (FS.it ⟨f, A⟩).length = A.length := by simp [FS]
theorem jv5 {c : Cx} {g : Nat → Nat × Nat} {a : Act} {w : World} {st : Int} {Ts : List St} {row : Row} {f : Bool} {xs : Array Operand} (hs : Sim c g s a w) (hx : xs.toList.map s.ev = ([.agg [.i st, .own 901 2 n f]] : List V).map some) (hH : s.H = lits ++ FS.objs 1000 Ts) (vW : lits.all (fun x => decide (x.1 < 1000)) = true)
  (hr : fnd lits 901 = some row) (hf : row.nil = f) (hc : row.cells = FS.cells 1000 Ts) (hn : Ts.length = n) (hl : n ≤ 60) (ha : ∀ x ∈ Ts, x.arcs.length ≤ 400) : y9 w (fun b => ¬ c.out b) g [mV ⟨st, Ts⟩] (xs.toList.map a.eval) := by
 subst hn; obtain ⟨h1, h2⟩ := uv hs hx; refine ⟨by simpa using h1, fun j u x hu hx => ?_⟩
 cases j with
 | succ j => simp at hu
 | zero =>
  simp only [List.getElem?_cons_zero, Option.some.injEq] at hu; subst hu; have h3 := h2 0 _ x rfl hx
  cases h3 with
  | agg _ cs hl2 hh =>
   refine .agg _ cs hl2 fun j y z hy hz => ?_
   match j, hy with
   | 0, hy =>
    simp only [List.getElem?_cons_zero, Option.some.injEq] at hy; subst hy; rw [VRep.p_eq (hh 0 _ z rfl hz)]; exact .d _ _ (.p _)
   | 1, hy =>
    simp only [List.getElem?_cons_succ, List.getElem?_cons_zero, Option.some.injEq] at hy; subst hy
    exact j50 (F := FS) (m := 1) (base := 1000) (btr := 32) hs hH vW hr hf hc (fun _ => rfl) rfl zg uI (fun x hx => by have := ha x hx; simp [FS]; omega) (hh 1 _ z rfl hz)
   | n + 2, hy => simp at hy
theorem j25 (h : zn m ≠ 0) : Fn prog 33 [mV m] (fun v => v = .tup [.agg [.i 0, .nil], .i (zn m)]) := (qT6 m).mono fun v hv => by grind
theorem je7 (h : zn m = 0) : Fn prog 33 [mV m] (fun v => v = .tup [mV (x9 m), .i 0]) := (qT6 m).mono fun v hv => by grind
theorem qV6 (m : zr) : Fn prog 15 [mV m] (fun v => qD5 (w9 m) (vT m) (ue m) v) := by
 by_cases h0 : zn m = 0
 ·by_cases h1 : wL (enD (x9 m)) (x9 m) = 0
  ·have vN := ju0 m h0
   obtain ⟨hDl, hDb⟩ := qy5 h1; have y4 := ju1 (x9 m) (q24 h1) h1; have hz := xj (q24 h1)
   have bq := fun (D : List Nat) (T : zr) (hT : x9 m = T) (hD : wM (enD T) T = D) (q : Nat) (s : St) (a : Ar) => qy4 (m := m) (T := T) (D := D) h0 h1 hT hD (q := q) (s := s) (a := a)
   have gy := fun (D : List Nat) (T : zr) (hT : x9 m = T) (hD : wM (enD T) T = D) => qt6 (m := m) (T := T) (D := D) h0 h1 hT hD
   obtain ⟨T, hT⟩ : ∃ T, x9 m = T := ⟨_, rfl⟩; obtain ⟨D, hD⟩ : ∃ D, wM (enD T) T = D := ⟨_, rfl⟩; rw [hT] at vN hDl hDb y4 hz; rw [hD] at hDl hDb y4; have bq := bq D T hT hD; have gy := gy D T hT hD; obtain ⟨e, he⟩ : ∃ e, w9 m = e := ⟨_, rfl⟩; obtain ⟨M, hM⟩ : ∃ M, vT m = M := ⟨_, rfl⟩; obtain ⟨X, hX⟩ : ∃ X, ue m = X := ⟨_, rfl⟩; rw [he, hM, hX] at gy ⊢; rw [he] at bq; obtain ⟨st, sts⟩ := m
   obtain ⟨a, Ts⟩ := T; clear hT hD h1 he hM hX; obtain ⟨xZ, vw, xR, hz⟩ := hz; simp only at xZ vw xR hz hDl vN y4 bq gy
   have ui : ∀ x ∈ Ts, x.arcs.length ≤ 400 := fun x hx => le_trans (yq Ts x hx) vw
   obtain ⟨n, hn⟩ : ∃ n, Ts.length = n := ⟨_, rfl⟩; rw [hn] at xZ xR hz hDl vN y4; obtain ⟨f, hf⟩ : ∃ f, decide (n = 0) = f := ⟨_, rfl⟩; rw [hf] at vN; refine qc 107 fun w0 out => ?_; refine W64 ?_; refine j4 (post := ?pc191) rfl (q65 (args := [_]) ?hc191 ⟨func33, rfl, rfl, rfl, rfl⟩ rfl rfl rfl rfl ?fc191) ?_
   case hc191 => exact vN
   case fc191 => exact (by rintro _ _ ⟨rfl, rfl⟩; exact ji8 (b := 900) rfl rfl rfl zj zj)
   rintro _ _ ⟨rfl, rfl⟩; refine zQ ?_
   try simp only [S.put, cons_append]
   refine AL.less (Less.rot (F := FS) rfl) ?_
   try simp only [cons_append, nil_append]
   refine xd ?_; refine q9 rfl (zp (l := [.i 0, .nil]) 5 xN rfl (by first | rfl | (simp only [S.clean, S.put, S.newObj, all_cons, zP, reduceLT]; simp [S.forget, V.has, V.hasL, zV, xg, V.cs, xm, xF, xG, xc, x4, zE, zA, zL, xL, xC, nb1, nb2, nb3, nb4, -map_set]; try omega)) rfl rfl) ?_; refine W53 ?_
   refine AW.less (s' := ⟨107, [(2, .ref 2 0), (5, .ref 5 0)], [(2, ⟨24, [.i 0, .nil], false, 0⟩), (5, ⟨24, [.i a, .own 901 2 n f], false, 0⟩), (901, ⟨35, FS.cells 1000 Ts, f, 2⟩)] ++ FS.objs 1000 Ts, []⟩) qd ?_; simp only [cons_append, nil_append]; refine zR ?_
   refine q9 rfl (jt5 (y4) (by intro v hv; simp only [mem_map] at hv; obtain ⟨_, _, rfl⟩ := hv; exact ⟨_, rfl⟩) ⟨func34, rfl, rfl, rfl, rfl⟩ rfl rfl (fun g a w hs => jv5 (lits := [_, _, _]) hs rfl rfl rfl rfl rfl rfl hn xZ ui) rfl ((by first | rfl | (simp only [S.clean, S.put, S.newObj, all_cons, zP, reduceLT]; simp [S.forget, V.has, V.hasL, zV, xg, V.cs, xm, xF, xG, xc, x4, zE, zA, zL, xL, xC, nb1, nb2, nb3, nb4, -map_set]; try omega)))) ?_
   try simp only [S.put]
   refine xS ?_; refine q63 ?_; refine AW.less (s' := ⟨107, [(2, .ref 2 0), (5, .ref 5 0), (7, .own 21 1 n false)], [(2, ⟨24, [.i 0, .nil], false, 0⟩), (5, ⟨24, [.i a, .own 901 2 n f], false, 0⟩), (21, ⟨3, D.map V.n, false, 1⟩), (901, ⟨35, FS.cells 1000 Ts, f, 2⟩)] ++ FS.objs 1000 Ts, []⟩) qd ?_; simp only [cons_append, nil_append]; refine x8 ?_
   refine qb (fun s' => ∃ (k : Nat) (P : List St), k ≤ n ∧ P.length = n ∧ (∀ q x, q < k → Ts[q]? = some x → P[q]? = some (q49 D q x)) ∧ (∀ q, k ≤ q → P[q]? = Ts[q]?) ∧ (∀ q x y, q < k → Ts[q]? = some x → y ∈ x.arcs → bn D q y ≤ 1000000000) ∧ s' = ⟨107, [(2, .ref 2 0), (5, .ref 5 0), (7, .own 21 1 n false), (32, .i n), (33, .i k)], [(2, ⟨24, [.i 0, .nil], false, 0⟩), (5, ⟨24, [.i a, .own 901 2 n f], false, 0⟩), (21, ⟨3, D.map V.n, false, 1⟩), (901, ⟨35, FS.cells 1000 P, f, 2⟩)] ++ FS.objs 1000 P, []⟩) (fun s' => n - s'.nat 33) ⟨_, ?_, 0, Ts, by omega, hn, (fun q x h => absurd h zg), (fun q _ => rfl), (fun q x y h => absurd h zg), rfl⟩ ?_
   ·exact qd
   rintro s' ⟨k, P, hk, wy, hPd, hPu, x6, rfl⟩
   by_cases zk : k < n
   ·obtain rfl : f = false := by rw [← hf]; simp; omega
    obtain ⟨x, hx⟩ := zl hn zk; obtain ⟨d, hd⟩ := zl hDl zk; have hdb := hDb d (mem_of_getElem? hd); have hxm := mem_of_getElem? hx; have hxf := (hz x hxm).1; simp only [vy, decide_eq_true_eq] at hxf; have wu : P[k]? = some x := by rw [hPu k (le_refl _), hx]
    obtain ⟨la, xr⟩ : ∃ n, x.arcs.length = n := ⟨_, rfl⟩; have q39 := ui x hxm; rw [xr] at q39; refine gi ?_
    refine qn (fun s' => s' = ⟨107, [(2, .ref 2 0), (5, .ref 5 0), (7, .own 21 1 n false), (8, .i k), (9, .ref 901 (k * 2)), (32, .i n), (33, .i k)], [(2, ⟨24, [.i 0, .nil], false, 0⟩), (5, ⟨24, [.i a, .own 901 2 n false], false, 0⟩), (21, ⟨3, D.map V.n, false, 1⟩), (901, ⟨35, FS.cells 1000 (P.set k ⟨ud D k x, x.arcs⟩), false, 2⟩)] ++ FS.objs 1000 (P.set k ⟨ud D k x, x.arcs⟩), []⟩) ?_ ?_
    ·skip
     by_cases w3 : x.fin = 1000000001
     ·have hs0 : P.set k ⟨ud D k x, x.arcs⟩ = P := by
       rw [qJ1 w3, ← w3]; refine ext_getElem? fun q => ?_; rw [List.getElem?_set]
       by_cases e : k = q
       ·subst e; rw [if_pos rfl, wu, if_pos zg]
       rw [if_neg e]
      refine zR ?_; refine W62 ?_; refine AL.rd rfl rfl (q66 (m := 1) underlying3 rfl rfl rfl rfl rfl rfl (fun _ => rfl) rfl zm rfl) ?_; refine zW ?_; refine ⟨_, ?_, rfl⟩; rw [hs0]; exact qd
     have hpf : ud D k x = x.fin - (d : Int) := qJ2 w3 hd; refine zR ?_; refine W62 ?_; refine AL.rd rfl rfl (q66 (m := 1) underlying3 rfl rfl rfl rfl rfl rfl (fun _ => rfl) rfl zm rfl) ?_; refine xd ?_
     refine qi [(0, true), (1, true), (2, true), (3, true), (4, true), (5, true), (6, true), (7, true), (8, true), (9, true), (10, true), (11, false)] (fun i => !([11] : List Nat).contains i) 12 zh zh rfl zh ?_; refine Dv ?_; refine W56 ?_; refine AD1.rd rfl rfl rfl (fun _ _ h => h) (q66 (m := 1) underlying3 rfl rfl rfl rfl rfl rfl (fun _ => rfl) rfl zm rfl) ?_; refine zC ?_; refine W56 ?_
     refine W85 ?_; refine qo rfl rfl rfl (qM4 (lits := [_, _, _, _]) (m := 1) (⟨x.fin - (d : Int), x.arcs⟩) zz rfl rfl rfl rfl rfl rfl rfl (fun _ => rfl) rfl rfl zm zj rfl (by rfl) (by rfl)) ?_; refine W37 ?_; refine ⟨_, ?_, rfl⟩; rw [hpf]; exact qd
    rintro s' rfl; obtain ⟨F, hF⟩ : ∃ F, ud D k x = F := ⟨_, rfl⟩; rw [hF]; simp only [cons_append, nil_append]; have hP1 : (P.set k ⟨F, x.arcs⟩)[k]? = some ⟨F, x.arcs⟩ := List.getElem?_set_self zg; have hl1 : (FS.it ⟨F, x.arcs⟩).length = la := by rw [qK0, xr]
    refine zR ?_; refine W62 ?_; refine AL.rd rfl rfl (qq8 (m := 1) underlying33 rfl rfl rfl rfl rfl rfl (fun _ => rfl) rfl zm) ?_; refine zW ?_
    refine qb (fun s' => ∃ (i : Nat) (A : List Ar), i ≤ la ∧ A.length = la ∧ (∀ j y, j < i → x.arcs[j]? = some y → A[j]? = some (bp D k y)) ∧ (∀ j, i ≤ j → A[j]? = x.arcs[j]?) ∧ (∀ j y, j < i → x.arcs[j]? = some y → bn D k y ≤ 1000000000) ∧ s' = ⟨107, [(2, .ref 2 0), (5, .ref 5 0), (7, .own 21 1 n false), (8, .i k), (9, .ref 901 (k * 2)), (32, .i n), (33, .i k), (60, .i la), (61, .i i)], [(2, ⟨24, [.i 0, .nil], false, 0⟩), (5, ⟨24, [.i a, .own 901 2 n false], false, 0⟩), (21, ⟨3, D.map V.n, false, 1⟩), (901, ⟨35, FS.cells 1000 (P.set k ⟨F, A⟩), false, 2⟩)] ++ FS.objs 1000 (P.set k ⟨F, A⟩), []⟩) (fun s' => la - s'.nat 61) ⟨_, ?_, 0, x.arcs, by omega, xr, (fun j y h => absurd h zg), (fun j _ => rfl), (fun j y h => absurd h zg), rfl⟩ ?_
    ·rw [hl1]; exact qd
    rintro s' ⟨i, A, hi, w5, hAd, hAu, hAk, rfl⟩; have hP1 : (P.set k ⟨F, A⟩)[k]? = some ⟨F, A⟩ := List.getElem?_set_self zg; have hl1 : (FS.it ⟨F, A⟩).length = la := by rw [qK0, w5]
    by_cases vr : i < la
    ·obtain ⟨y, hy⟩ := zl xr vr
     have hym := mem_of_getElem? hy; have hyt := (hz x hxm).2 y hym; have hAi : A[i]? = some y := by rw [hAu i (le_refl _), hy]
     obtain ⟨yi, yo, yw, yt⟩ := y; simp only [xl, decide_eq_true_eq] at hyt; obtain ⟨p, rfl⟩ : ∃ p : Nat, yt = p := ⟨yt.toNat, by omega⟩
     obtain ⟨dp, hdp⟩ := zl hDl (show p < n by omega)
     have k62 := hDb dp (mem_of_getElem? hdp); have hit := qJ9 (f := F) hAi
     have bC : FS.ownV (1000 + k) ⟨F, A⟩ = .own (1000 + k) 4 la false := by
      have h2 : (FS.it ⟨F, A⟩).isEmpty = false := by cases h : FS.it ⟨F, A⟩ with | nil => rw [h] at hl1; simp at hl1; omega | cons => rfl
      simp only [Fam.ownV, hl1, h2]; rfl
     have hpw := qm9 (i := yi) (o := yo) (w := yw) hdp hd; have hpa := jj3 (i := yi) (o := yo) (w := yw) hdp hd; have hP2 : ((P.set k ⟨F, A⟩).set k ⟨F, A.set i ⟨yi, yo, yw + ((dp : Int) - (d : Int)), p⟩⟩)[k]? = some ⟨F, A.set i ⟨yi, yo, yw + ((dp : Int) - (d : Int)), p⟩⟩ := List.getElem?_set_self (by rw [List.length_set]; omega)
     have jv6 : (FS.it ⟨F, A.set i ⟨yi, yo, yw + ((dp : Int) - (d : Int)), p⟩⟩)[i]? = some (arD ⟨yi, yo, yw + ((dp : Int) - (d : Int)), p⟩) := qJ9 (List.getElem?_set_self zg)
     by_cases hov : 1000000000 < yw + ((dp : Int) - (d : Int))
     ·have he4 : e = 4 := bq k x _ hx hym (by rw [hpw]; exact hov)
      subst he4; refine vF ?_; refine W62 ?_; refine jM9 ?_; refine W84 ?_; refine Dv ?_; refine W56 ?_; refine AD1.rd rfl rfl rfl (fun _ _ h => h) (xx (F := FS) (lits := [_, _, _, _]) (i := i) (j := 2) underlying3 rfl rfl rfl rfl rfl zm rfl zm (uI) rfl) ?_; refine zR ?_; refine W56 ?_
      refine AD1.rd rfl rfl rfl (fun _ _ h => h) (xx (F := FS) (lits := [_, _, _, _]) (i := i) (j := 3) underlying3 rfl rfl rfl rfl rfl zm rfl zm (uI) rfl) ?_; refine xB ?_; refine W56 ?_; refine W85 ?_
      refine qo rfl rfl rfl (bh (F := FS) (lits := [_, _, _, _]) (x0 := ⟨F, A⟩) (rb := 901) (i := i) (j := 2) (⟨F, A.set i ⟨yi, yo, yw + ((dp : Int) - (d : Int)), p⟩⟩) zz rfl rfl rfl rfl rfl rfl rfl rfl zm rfl zm zj (uI) rfl rfl (by rw [qJ8]; rfl)) ?_; refine W37 ?_; refine zR ?_; refine W62 ?_
      refine AL.rd rfl rfl (xx (F := FS) (lits := [_, _, _, _, _]) (i := i) (j := 2) underlying3 rfl rfl rfl rfl rfl zm rfl zm (uI) rfl) ?_; refine zW ?_; refine W14 ?_; exact ⟨[_, _, _], zU3, zU8, zU0⟩
     skip; refine vF ?_; refine W62 ?_; refine jM9 ?_; refine W84 ?_; refine Dv ?_; refine W56 ?_; refine AD1.rd rfl rfl rfl (fun _ _ h => h) (xx (F := FS) (lits := [_, _, _, _]) (i := i) (j := 2) underlying3 rfl rfl rfl rfl rfl zm rfl zm (uI) rfl) ?_; refine zR ?_; refine W56 ?_
     refine AD1.rd rfl rfl rfl (fun _ _ h => h) (xx (F := FS) (lits := [_, _, _, _]) (i := i) (j := 3) underlying3 rfl rfl rfl rfl rfl zm rfl zm (uI) rfl) ?_; refine xB ?_; refine W56 ?_; refine W85 ?_
     refine qo rfl rfl rfl (bh (F := FS) (lits := [_, _, _, _]) (x0 := ⟨F, A⟩) (rb := 901) (i := i) (j := 2) (⟨F, A.set i ⟨yi, yo, yw + ((dp : Int) - (d : Int)), p⟩⟩) zz rfl rfl rfl rfl rfl rfl rfl rfl zm rfl zm zj (uI) rfl rfl (by rw [qJ8]; rfl)) ?_; refine W37 ?_; refine zR ?_; refine W62 ?_
     refine AL.rd rfl rfl (xx (F := FS) (lits := [_, _, _, _, _]) (i := i) (j := 2) underlying3 rfl rfl rfl rfl rfl zm rfl zm (uI) rfl) ?_; refine xB ?_; refine ⟨_, ?_, ⟨i + 1, A.set i ⟨yi, yo, yw + ((dp : Int) - (d : Int)), p⟩, by omega, by rw [List.length_set]; exact w5, fun j y hj hy' => ?_, fun j hj => ?_, fun j y hj hy' => ?_, rfl⟩, ?_⟩
     ·rw [List.set_set]; exact qd
     ·grind
     ·grind
     ·grind
     exact zM
    have hAe : A = x.arcs.map (bp D k) := by
     refine ext_getElem? fun j => ?_; rw [List.getElem?_map]
     by_cases hj : j < la
     ·grind
     grind
    have hS : (⟨F, A⟩ : St) = q49 D k x := by rw [hAe, ← hF]; rfl
    refine ve ?_; refine ⟨_, ?_, ⟨k + 1, P.set k ⟨F, A⟩, by omega, by rw [List.length_set]; exact wy, fun q z hq hz' => ?_, fun q hq => ?_, fun q z y hq hz' hy' => ?_, rfl⟩, ?_⟩
    ·exact qd
    ·grind
    ·grind
    ·by_cases eq : k = q
     ·grind [Option.some.injEq, List.getElem?_of_mem, List.getElem?_eq_some_iff]
     exact x6 q z y zg hz' hy'
    exact zM
   obtain rfl : k = n := by omega
   have hPe : P = gd D 0 Ts := by
    refine ext_getElem? fun j => ?_; rw [q23, zero_add]
    by_cases hj : j < k
    ·grind
    grind
   obtain ⟨he0, hM, hX⟩ := gy (fun q x y hx hy => x6 q x y (by have := (List.getElem?_eq_some_iff.1 hx).1; omega) hx hy); rw [← hPe] at hM; rw [he0, hM, hX]
   have hPa : ∀ x ∈ P, (FS.it x).length * FS.bt ≤ 140737488355328 := by
    intro x hx; rw [hPe] at hx; obtain ⟨j, hj⟩ := List.getElem?_of_mem hx; rw [q23] at hj
    cases hy : Ts[j]? with
    | none => rw [hy] at hj; cases hj
    | some y =>
     rw [hy] at hj; simp only [map_some, Option.some.injEq] at hj; subst hj; have := ui y (mem_of_getElem? hy); simp [FS, q49]; omega
   refine W75 ?_; apply qg; refine jf (F := FS) (m := 1) (base := 1000) (L := P) [_, _, _, _] 901 rfl rfl (by rw [wy]; exact hf.symm) rfl (fun _ => rfl) uI hPa rfl (by simp [V.hasL, V.has]; intro r hr; omega) rfl rfl ?_; refine qs 5 1 32 (P.map FS.data) rfl rfl rfl zj rfl rfl (by rw [length_map, wy]) zg (vx (sz := 2) (fun _ => rfl) rfl) ?_
   refine AW.less (s' := ⟨107, [(2, .ref 2 0), (5, .ref 5 0), (7, .own 21 1 k false)], [(2, ⟨24, [.i 0, .nil], false, 0⟩), (5, ⟨24, [.i a, .d (zq P)], false, 0⟩), (21, ⟨3, D.map V.n, false, 1⟩)], []⟩) qd ?_
   by_cases ha0 : a < 0
   ·rw [if_pos ha0]
    refine xS ?_; exact ⟨[_, _, _], zU3, .inr ⟨rfl, rfl⟩, zU0⟩
   obtain ⟨p, rfl⟩ : ∃ p : Nat, a = p := ⟨a.toNat, by omega⟩
   obtain ⟨dp, hdp⟩ := zl hDl (show p < k by omega)
   have hXd : dAt D ((p : Int)).toNat = (dp : Int) := by simp only [Int.toNat_natCast]; exact qd2 hdp
   rw [if_neg ha0, hXd]; refine x8 ?_; apply qg; refine qP (N := ?N193) (l := #[false, false, false, false, false, false, false, false, false]) 9 zh rfl rfl ?_ ?_
   rotate_left
   refine ql (i := 1) rfl rfl rfl (fun _ _ h => h) zh rfl (vC rfl rfl) ?_; refine ql (i := 2) rfl rfl rfl (fun _ _ h => h) zh rfl (xe underlying24 rfl rfl rfl zz zj rfl) ?_; refine qy (i := 0) (j := 3) zh ?_ ?_
   ·refine wg ?_
    refine ST.rd rfl (vQ underlying24 rfl xN rfl rfl rfl rfl rfl rfl) ?_; refine qy (i := 3) (j := 6) zh ?_ ?_
    ·refine wg ?_
     refine ST.rd rfl (xO underlying3 rfl rfl rfl rfl rfl rfl) ?_; refine ql (i := 4) rfl rfl rfl (fun _ _ h => h) zh rfl (vj underlying42 zz rfl rfl rfl rfl zT9) ?_; refine qy (i := 5) (j := 6) zh ?_ ?_
     ·refine wg ?_
      refine ST.rd rfl (w6 underlying3 rfl rfl rfl rfl rfl rfl zm) ?_; refine qp (i := 6) zh ?_; refine W12 ?_; refine q35 ?_
      show Less _ _
      exact qW _
     refine W12 ?_; refine qB9 ?_; refine ST.rd rfl (w6 underlying3 rfl rfl rfl rfl rfl rfl zm) ?_; refine q35 ?_
     show Less _ _
     refine W1 ?_; exact qC
    refine W12 ?_; refine W80 ?_; refine ST.rd rfl (xO underlying3 rfl rfl rfl rfl rfl rfl) ?_; refine ql (i := 4) rfl rfl rfl (fun _ _ h => h) zh rfl (vj underlying42 zz rfl rfl rfl rfl zT9) ?_; refine qB9 ?_; refine ST.rd rfl (w6 underlying3 rfl rfl rfl rfl rfl rfl zm) ?_; refine q35 ?_
    show Less _ _
    refine W1 ?_; exact qC
   ·refine wg ?_
    refine ST.rd rfl (xO underlying3 rfl rfl rfl rfl rfl rfl) ?_; refine ql (i := 4) rfl rfl rfl (fun _ _ h => h) zh rfl (vj underlying42 zz rfl rfl rfl rfl zT9) ?_; refine qy (i := 0) (j := 5) zh ?_ ?_
    ·refine wg ?_
     refine ST.rd rfl (vQ underlying24 rfl xN rfl rfl rfl rfl rfl rfl) ?_; refine qy (i := 5) (j := 6) zh ?_ ?_
     ·refine wg ?_
      refine ST.rd rfl (w6 underlying3 rfl rfl rfl rfl rfl rfl zm) ?_; refine qp (i := 6) zh ?_; refine W12 ?_; refine q35 ?_
      show Less _ _
      refine W1 ?_; exact qC
     refine W12 ?_; refine qB9 ?_; refine ST.rd rfl (w6 underlying3 rfl rfl rfl rfl rfl rfl zm) ?_; refine q35 ?_
     show Less _ _
     refine W1 ?_; exact qC
    refine wg ?_; refine ST.rd rfl (w6 underlying3 rfl rfl rfl rfl rfl rfl zm) ?_; refine qp (i := 0) zh ?_; refine wg ?_; refine ST.rd rfl (vQ underlying24 rfl xN rfl rfl rfl rfl rfl rfl) ?_; refine qp (i := 6) zh ?_; refine W12 ?_; refine q35 ?_
    show Less _ _
    refine W1 ?_; exact qC
   refine W1 ?_; refine jc1 ?_; exact ⟨[_, _, _], zU3, .inr ⟨rfl, rfl⟩, zU0⟩
  have vN := je7 h0; have y4 := qp4 (jt9 (x9 m)) h1; rw [qI9 h0 h1]; obtain ⟨e, he⟩ : ∃ e, wL (enD (x9 m)) (x9 m) = e := ⟨_, rfl⟩; rw [he] at h1 y4 ⊢; obtain ⟨st, sts⟩ := m; obtain ⟨⟨a, Ts⟩, hT⟩ : ∃ T, x9 ⟨st, sts⟩ = T := ⟨_, rfl⟩; rw [hT] at vN y4; refine qc 107 fun w0 out => ?_; refine W64 ?_; refine qa vN ?_; refine W78 ?_; refine wn ?_; refine qa y4 ?_; refine W93 ?_; refine W24 ?_
  exact ⟨[_, _, _], zU3, .inl ⟨h1, rfl⟩, zU0⟩
 have vN := j25 h0; rw [qy3 h0]; obtain ⟨st, sts⟩ := m; obtain ⟨e, he⟩ : ∃ e, zn ⟨st, sts⟩ = e := ⟨_, rfl⟩; rw [he] at h0 vN ⊢; refine qc 107 fun w0 out => ?_; refine W64 ?_; refine qa vN ?_; refine W78 ?_; refine ve ?_; refine W24 ?_; exact ⟨[_, _, _], zU3, .inl ⟨h0, rfl⟩, zU0⟩
theorem jG6 (m : zr) : Fn prog 15 [mV m] (fun v => v = .tup [mV (vT m), .i (ue m), .i (w9 m)]) := (qV6 m).wkS (qd3 qJ0)
end Go.Proofs.YthiknkcigcglkaaGreatDoor
