/- Part 28 of what the law SameSames rests on. -/
import Derived.Test.YthiknkcigcglkaaGreatDoorPkSS22
import Derived.Test.YthiknkcigcglkaaGreatDoorPkSS25
import Derived.Test.YthiknkcigcglkaaGreatDoorPkSS26
import Derived.Test.YthiknkcigcglkaaGreatDoorPkSS27
namespace Go.Proofs.YthiknkcigcglkaaGreatDoor
open Go.RowKit
open Go.Proofs.Tryz
open List (append_assoc append_nil drop_zero flatMap_append flatMap_cons flatMap_nil length_append length_cons length_map length_nil map_append map_cons map_nil mem_of_getElem? mem_singleton set_cons_zero take_of_length_le take_zero)
open Nat (le_refl le_trans succ_mul zero_add)
open Option (getD_some)
set_option linter.unusedSimpArgs false
set_option linter.unusedVariables false
set_option maxRecDepth 100000
set_option maxHeartbeats 8000000
variable {cl l out : List Nat} {j k n q t : Nat} {v : Int}
theorem qZ4 {v : Nat} (h : out.length = q) (hq : q < n) : (out ++ List.replicate (n - q) 0).set q v = (out ++ [v]) ++ List.replicate (n - (q + 1)) 0 := by
 obtain ⟨m, hm⟩ : ∃ m, n - q = m + 1 := ⟨n - q - 1, by omega⟩
 rw [hm, show n - (q + 1) = m by omega, List.set_append_right _ _ zg, h, Nat.sub_self, List.replicate_succ, set_cons_zero, append_assoc]
 rfl
theorem jJ4 {c : Cx} {s : S} {o : Oper} {t : Array TypeId} {x y : Operand} {n : Int} (ho : o.op = .call { callee := .builtin .min, args := #[x, y], argTypes := t }) (hx : s.ev x = some (.i 1)) (hy : s.ev y = some (.i n)) (h : 1 ≤ n) : RP c o s (.i 1) := fun g a w hs => by
 refine ⟨.int .i64 1, .d _ _ (.p _), fun w' => ?_⟩; have h1 := VRep.p_eq (hs.ev hx); have h2 := VRep.p_eq (hs.ev hy); have h3 : ¬ n < 1 := by omega
 simp [execOp, ho, resolve, invoke, builtin, h1, h2, Builtin.min_, Builtin.min2, h, h3]
theorem jf9 (st : Int) (sts : List St) (xZ : sts.length ≤ 60) (h0 : 0 < sts.length) (hx4 : ∀ x ∈ sts, x.arcs.length ≤ 400) (x6 : ∀ x ∈ sts, vy x.fin = true ∧ ∀ a ∈ x.arcs, xl sts.length a = true) : FnP uj prog 17 [mV ⟨st, sts⟩] (fun v => ∃ (cl : List Nat) (m : Nat), v = .tup [.d (.sl 1 8 (cl.map vp)), .i (m : Int)] ∧ cl.length = sts.length ∧ (∀ c ∈ cl, c < m) ∧ m ≤ sts.length ∧ ∀ q p, q < sts.length → p < sts.length → (clG cl q = clG cl p ↔ sim sts q p)) := by
 have qg9 : tin sts := fun x hx a ha => by
  have h1 := (x6 x hx).2 a ha; simp only [xl, decide_eq_true_eq] at h1; omega
 have gA : ∀ x ∈ sts, qC6 x := fun x hx => by
  obtain ⟨h1, h2⟩ := x6 x hx; simp only [vy, decide_eq_true_eq] at h1; refine ⟨h1.1, fun a ha => ?_⟩; have h3 := h2 a ha; simp only [xl, decide_eq_true_eq] at h3; omega
 have jy3 := ClsI.begin h0
 have wO := fun (cl : List Nat) (m : Nat) (h : ClsI sts cl m) (known : List ByteArray) (out : List Nat) => h.next (known := known) (out := out) qg9 gA
 obtain ⟨n, hn⟩ : ∃ n, sts.length = n := ⟨_, rfl⟩; rw [hn] at xZ h0 x6 jy3 wO ⊢; have qC8 : (1 : Int) ≤ (n : Int) := by omega
 refine qx 71 fun w0 out wK => ?_; refine W7 ?_; refine x8 ?_; refine q9 rfl (vg 16 V.i (0) underlying42 zz rfl rfl rfl rfl rfl zg zj rfl rfl) ?_; refine W31 ?_; have hz : (List.replicate n (0 : Int)).map V.i = (List.replicate n 0).map V.n := by simp
 have hrl : (List.replicate n (0 : Nat)).length = n := by simp
 rw [hz]; refine qk 4 8 ((List.replicate n 0).map vp) rfl rfl rfl zx zg (yk rfl) ?_; refine xd ?_; refine qe rfl rfl (jJ4 rfl rfl rfl qC8) ?_; refine xd ?_
 refine qF (fun μ s' => ∃ (cl : List Nat) (m : Nat), n - m ≤ μ ∧ 1 ≤ m ∧ ClsI sts cl m ∧ s' = ⟨71, [(1, .ref 1 0), (4, .d (.sl 1 8 (cl.map vp))), (5, .i (m : Int))], [(1, ⟨24, [.i st, .d (zq sts)], false, 0⟩)], []⟩) ⟨n, _, ?_, List.replicate n 0, 1, by omega, by omega, jy3, rfl⟩ ?_
 ·exact q8
 clear jy3 hz qC8; rintro μ s' ⟨cl, m, hμ, hm1, hI, rfl⟩; have xM : cl.length = n := hI.i.1.trans hn
 have hcm : ∀ c ∈ cl, c ≤ 1000 := fun c hc => by
  have h1 := hI.lt c hc; have h2 := hI.le; omega
 have hsg := fun (x : St) (hx : x ∈ sts) => jG8 cl x n (hx4 x hx) (x6 x hx).1 (x6 x hx).2 (by rw [xM]) hcm
 have hnx := wO cl m hI; have hkl := qv2 cl sts; rw [hn] at hkl; refine zR ?_; refine q9 rfl (q48 20 rfl rfl rfl) ?_; refine zC ?_; refine q9 rfl (vg 23 V.i (0) underlying42 zz rfl rfl rfl rfl rfl zg zj rfl rfl) ?_; refine ve ?_
 refine qb (fun s' => ∃ (q : Nat) (known : List ByteArray) (out : List Nat), q ≤ n ∧ out.length = q ∧ Nmb known ((qv1 cl sts).take q) out ∧ s' = ⟨71, [(1, .ref 1 0), (4, .d (.sl 1 8 (cl.map vp))), (5, .i (m : Int)), (6, .mp 20 w0.heap.size (xW (kmp 0 known))), (7, .own 23 1 n false), (25, .d (zq sts)), (26, .i n), (27, .i q)], [(23, ⟨3, (out ++ List.replicate (n - q) 0).map V.n, false, 1⟩), (1, ⟨24, [.i st, .d (zq sts)], false, 0⟩)], []⟩) (fun s' => n - s'.nat 27) ⟨_, ?_, 0, [], [], by omega, rfl, ⟨rfl, List.nodup_nil, fun q k j h => (by simp at h), fun k hk => (by cases hk)⟩, rfl⟩ ?_
 ·have hz : (List.replicate n (0 : Int)).map V.i = (([] : List Nat) ++ List.replicate (n - 0) 0).map V.n := by simp
  rw [← hz]; exact q8
 rintro s' ⟨q, known, out, hq, hol, hN, rfl⟩
 by_cases zk : q < n
 ·obtain ⟨x, hx⟩ := zl hn zk
  have hk : (qv1 cl sts)[q]? = some (kS cl q x) := qv3 hx; have hsx := hsg x (mem_of_getElem? hx); have hcq : cl[q]? = some (clG cl q) := by unfold clG; rw [List.getElem?_eq_getElem zg]; rfl
  have hc4 := hcm _ (mem_of_getElem? hcq); have hit := j59 (clG cl q) zg; have hd := (q01 (n := clG cl q) zg).1; have hws := jR6 cl x n (hx4 x (mem_of_getElem? hx)) (x6 x (mem_of_getElem? hx)).1 (x6 x (mem_of_getElem? hx)).2 hcm; have ka4 : (⟨#[124]⟩ : ByteArray).size = 1 := rfl; have hkd : vu (clG cl q) ++ ⟨#[124]⟩ ++ wdS (sgN cl x) = kS cl q x := rfl
  obtain ⟨K0, hK0⟩ : ∃ K0, kS cl q x = K0 := ⟨_, rfl⟩; rw [hK0] at hk hkd; have k83 : (kmp 0 known).length = known.length := qG0 _ _; have hqR : q < (out ++ List.replicate (n - q) 0).length := by simp; omega
  obtain ⟨f, A⟩ := x; simp only at hsx hws; generalize wdS (sgN cl ⟨f, A⟩) = W at hsx hws hkd; generalize clG cl q = cq at hcq hc4 hit hd hkd; clear hK0 hsg hnx
  cases wP : zK (kmp 0 known) K0 with
  | none =>
   have vY := jx4 wP; have xR := hN.step_new vY; rw [← x5 hk] at xR; have vl := qX9 known 0 K0; rw [zero_add] at vl; clear hN; refine wn ?_; refine jb5 ?_; refine W81 ?_; refine jL0 ?_; refine qm ?_; refine qJ (post := ?pc170) rfl rfl (yL (args := [_]) (yM _ _ _ _) zm ?hc170 ⟨func40, rfl, rfl, rfl, rfl⟩ rfl rfl rfl rfl) ?_
   case hc170 => exact hit
   rintro _ rfl -; refine zQ ?_; refine jv rfl rfl rfl (fun _ _ h => h) (uF rfl rfl rfl (by first | assumption | omega | (simp only [ByteArray.size_append]; omega))) ?_; refine qJ (post := ?pc171) rfl rfl (yL (args := [_, _]) (yM _ _ _ _) zm ?hc171 ⟨func41, rfl, rfl, rfl, rfl⟩ rfl rfl rfl rfl) ?_
   case hc171 => exact hsx
   rintro _ rfl -; refine zQ ?_; refine qK rfl rfl rfl (uF rfl rfl rfl (by first | assumption | omega | (simp only [ByteArray.size_append]; omega))) ?_; refine jc6 ?_; apply qg; rw [hkd]; refine xd ?_; refine AL.rd rfl rfl (q97 underlying9 underlying72 qw6 rfl rfl rfl zm) ?_; refine xd ?_; refine q9 rfl (zp (l := [.i 0]) 11 qw6 rfl zT0 rfl rfl) ?_; refine xu ?_; refine jb6 ?_; refine Dv ?_
   refine q32 ?_; refine zC ?_; refine qf rfl (qj7 underlying9 underlying72 rfl rfl rfl rfl rfl zm rfl (by simp [S.put, S.newObj, xg, V.cs, V.mpsL, V.mps, D.mps, D.mpsL, D.mpsR, vM, vZ, V.one, qY0, qY1, jm1, j79, j80]) rfl) ?_; simp only [S.put, map_cons, map_nil, qx9, qc8, qc9, qm8, q70, qd0, qm7, V.mpsL, V.mps, D.mps, D.mpsL, Bool.or_false, Bool.or_self,  vM, vZ, qY0, qY1, jm1, j79, j80]
   refine x8 ?_; refine qf rfl (zX (v := known.length) zz rfl rfl rfl rfl rfl rfl rfl rfl zT9) ?_; refine zC ?_; refine ⟨_, ?_, ⟨q + 1, known ++ [K0], out ++ [known.length], by omega, by simp [hol], xR, rfl⟩, ?_⟩
   ·rw [← qZ4 hol zk, vl]
    exact q8
   exact zM
  | some v =>
   obtain ⟨j, rfl, hj⟩ := j78 _ _ _ _ wP; rw [zero_add] at wP; have xR := hN.step_old hj; rw [← x5 hk] at xR; clear hN; refine wn ?_; refine jb5 ?_; refine W81 ?_; refine jL0 ?_; refine qm ?_; refine qJ (post := ?pc172) rfl rfl (yL (args := [_]) (yM _ _ _ _) zm ?hc172 ⟨func40, rfl, rfl, rfl, rfl⟩ rfl rfl rfl rfl) ?_
   case hc172 => exact hit
   rintro _ rfl -; refine zQ ?_; refine jv rfl rfl rfl (fun _ _ h => h) (uF rfl rfl rfl (by first | assumption | omega | (simp only [ByteArray.size_append]; omega))) ?_; refine qJ (post := ?pc173) rfl rfl (yL (args := [_, _]) (yM _ _ _ _) zm ?hc173 ⟨func41, rfl, rfl, rfl, rfl⟩ rfl rfl rfl rfl) ?_
   case hc173 => exact hsx
   rintro _ rfl -; refine zQ ?_; refine qK rfl rfl rfl (uF rfl rfl rfl (by first | assumption | omega | (simp only [ByteArray.size_append]; omega))) ?_; refine jc6 ?_; apply qg; rw [hkd]; refine xd ?_; refine AL.rd rfl rfl (qc3 underlying9 underlying72 qw6 rfl rfl rfl zm) ?_; refine xd ?_; refine q9 rfl (zp (l := [.i 0]) 11 qw6 rfl zT0 rfl rfl) ?_; refine yW ?_
   refine qf rfl (zX (v := j) zz rfl rfl rfl rfl rfl rfl rfl rfl zT9) ?_; refine zC ?_; refine ⟨_, ?_, ⟨q + 1, known, out ++ [j], by omega, by simp [hol], xR, rfl⟩, ?_⟩
   ·rw [← qZ4 hol zk]
    exact q8
   exact zM
 obtain rfl : q = n := by omega
 rw [take_of_length_le zg] at hN; obtain ⟨k1, k2, k3⟩ := hnx known out hN; have hle := k1.le; rw [hn] at hle; have bE : out ++ List.replicate (q - q) 0 = out := by simp
 have k83 : (kmp 0 known).length = known.length := qG0 _ _; rw [bE]; clear hsg hnx wO hN hcm; refine W75 ?_; apply qg; refine qk 7 8 (out.map vp) rfl rfl rfl (by rw [length_map, hol]) zg (yk rfl) ?_
 by_cases he : known.length = m
 ·refine zR ?_
  refine jb6 ?_; refine xu ?_
  exact ⟨[_, _], zU4, ⟨out, m, rfl, hol, fun c hc => by have := k1.lt c hc; omega, by omega, k3 he⟩, zU0⟩
 skip; refine zR ?_; refine jb6 ?_; refine xB ?_; refine jb6 ?_; refine xd ?_; refine ⟨q - known.length, _, ?_, ⟨out, known.length, le_refl _, by omega, k1, rfl⟩, by omega⟩; exact q8
theorem jU1 {sts : List St} (ht : tin sts) : ∀ c ∈ clS sts, c < sts.length := fun c hc => by
 obtain ⟨q, hq⟩ := List.getElem?_of_mem hc; have hl : (clS sts).length = sts.length := by simp [clS]
 have hql : q < sts.length := by rw [← hl]; exact (List.getElem?_eq_some_iff.1 hq).1
 obtain ⟨j, h1, h2⟩ := j75 hql; obtain ⟨h3, _⟩ := h2 q hql (qQ5 ht hql); rw [qq1 hl hql, Option.some.injEq] at hq; omega
def fndJ (cl l : List Nat) (t j : Nat) (v : Int) : Prop := (v = -1 ∧ ∀ (i q : Nat), i < j → l[i]? = some q → clG cl q ≠ clG cl t) ∨ ∃ i q : Nat, i < j ∧ l[i]? = some q ∧ clG cl q = clG cl t ∧ v = (i : Int)
theorem fndJ.zero (cl l : List Nat) (t : Nat) : fndJ cl l t 0 (-1) := .inl ⟨rfl, fun i q h => absurd h zg⟩
theorem fndJ.yes (h : fndJ cl l t j v) (hq : l[j]? = some q) (hc : clG cl q = clG cl t) : fndJ cl l t (j + 1) (j : Int) := .inr ⟨j, q, by omega, hq, hc, rfl⟩
theorem fndJ.no (h : fndJ cl l t j v) (hq : l[j]? = some q) (hc : clG cl q ≠ clG cl t) : fndJ cl l t (j + 1) v := by
 rcases h with ⟨h1, h2⟩ | ⟨i, q', h1, h2⟩
 ·refine .inl ⟨h1, fun i q' hi hq' => ?_⟩
  by_cases e : i = j
  ·subst e
   rw [hq] at hq'
   cases hq'
   exact hc
  exact h2 i q' zg hq'
 exact .inr ⟨i, q', by omega, h2⟩
theorem fndJ.end (h : fndJ cl l t l.length v) (hd : bN cl l) : (v < 0 ∧ uz cl l t = l.length) ∨ ∃ i : Nat, v = (i : Int) ∧ i < l.length ∧ uz cl l t = i := by
 rcases h with ⟨h1, h2⟩ | ⟨i, q, h1, h2, h3, h4⟩
 ·refine .inl ⟨by omega, qH5 fun q hq => ?_⟩
  obtain ⟨i, hi⟩ := List.getElem?_of_mem hq; exact h2 i q (List.getElem?_eq_some_iff.1 hi).1 hi
 exact .inr ⟨i, h4, h1, qH4 hd h2 h3⟩
theorem j32 (m : zr) : Fn prog 8 [mV m] (fun v => qD5 (leE m) (leM m) (leV m) v) := by
 have wI := j87 m
 by_cases h0 : zn m = 0
 ·rw [qd6 h0, h0] at wI
  cases xA : bFl m.states with
  | false =>
   have hE : leE m = 7 := by unfold leE; rw [if_neg (by simp [h0]), if_pos xA]
   rw [hE]; rw [xA] at wI; clear hE h0 xA; obtain ⟨st, sts⟩ := m; refine qc 141 fun w0 out => ?_; refine W64 ?_; refine qa wI ?_; refine zQ ?_; refine W18 ?_; refine yB ?_; refine W14 ?_; exact ⟨[_, _, _], zU3, zU8, zU0⟩
  | true =>
   cases hdi : (bDi m.states && bFl m.states) with
   | false =>
    have hE : leE m = 8 := by unfold leE; rw [if_neg (by simp [h0]), if_neg (by simp [xA]), if_pos hdi]
    rw [hE]; rw [hdi, xA] at wI; clear hE h0 hdi xA; obtain ⟨st, sts⟩ := m; refine qc 141 fun w0 out => ?_; refine W64 ?_; refine qa wI ?_; refine zQ ?_; refine W18 ?_
    iterate 26 refine Dv ?_
    refine W14 ?_; exact ⟨[_, _, _], zU3, zU8, zU0⟩
   | true =>
    have hE : leE m = w9 m := by unfold leE; rw [if_neg (by simp [h0]), if_neg (by simp [xA]), if_neg (by simp [hdi])]
    have qi9 := qy6 m; rw [hdi, xA] at wI
    by_cases hpe : w9 m = 0
    ·have hE0 : leE m = 0 := by rw [hE, hpe]
     have hpg := qL0 hpe; have uU := jJ0 (vT m); obtain ⟨s1, s2, s3⟩ := qX8 hpg; obtain ⟨z60, y1, zst, y2⟩ := xj hpg; clear y1 y2; rw [hpg] at uU
     have gw : Fn prog 20 [mV m] (fun v => v = .tup [mV (vT m), .i (ue m), .i 0]) := by have := jj4 m; rw [hpe] at this; exact this
     have hM : leM m = if (vT m).start < 0 then y8 inO (vT m) else ⟨0, qv0 (y8 inO (vT m)).states (vT m).start.toNat⟩ := by unfold leM; rw [if_pos hE0]
     have hV : leV m = if (vT m).start < 0 then 0 else ue m := by unfold leV; rw [if_pos hE0]
     rw [hE0, hM, hV]; obtain ⟨PM, hPM⟩ : ∃ PM, vT m = PM := ⟨_, rfl⟩; obtain ⟨PV, hPV⟩ : ∃ PV, ue m = PV := ⟨_, rfl⟩; obtain ⟨S, hS⟩ : ∃ S, y8 inO PM = S := ⟨_, rfl⟩; rw [hPM] at uU s1 s2 s3 z60 zst gw ⊢; rw [hPV] at gw ⊢; rw [hS] at uU s1 s2 s3 ⊢; rw [← s1]; rw [← s1, ← s2] at zst; rw [← s2] at z60 s3; clear hE hE0 hM hV hpg qi9 hpe hdi xA h0 hPM hPV hS s1 s2; obtain ⟨st, sts⟩ := m
     obtain ⟨pst, psts⟩ := PM; obtain ⟨s0, ss⟩ := S; simp only at uU s3 z60 zst ⊢
     by_cases y7 : s0 < 0
     ·rw [if_pos y7, if_pos y7]
      refine qc 141 fun w0 out => ?_; refine W64 ?_; refine qa wI ?_; refine zQ ?_; refine W18 ?_; refine bK ?_; refine qa gw ?_; refine W54 ?_; refine xS ?_; refine qa uU ?_; refine jc0 ?_; refine uy ?_; exact ⟨[_, _, _], zU3, .inr ⟨rfl, rfl⟩, zU0⟩
     rw [if_neg y7, if_neg y7]
     obtain ⟨s, rfl⟩ := Int.eq_ofNat_of_zero_le (show 0 ≤ s0 by omega)
     obtain ⟨n, hn⟩ : ∃ n, ss.length = n := ⟨_, rfl⟩
     have qg9 : tin ss := fun x hx a ha => by
      have h1 := (s3 x hx).2.2 a ha; simp only [xl, decide_eq_true_eq] at h1; omega
     have qD7 := qU6 (s : Int) ss z60 (fun x hx => (s3 x hx).1) (fun x hx a ha => by
      have h1 := (s3 x hx).2.2 a ha; simp only [xl, decide_eq_true_eq] at h1
      omega)
     have hbr : gG ss (clS ss) ss.length [s] [] = qv0 ss s := rfl; have xM : (clS ss).length = ss.length := by simp [clS]
     have hcm := jU1 qg9
     have qj0 := fun q p (hq : q < ss.length) (hp : p < ss.length) => j76 qg9 hq hp
     have hd1 := qY4 (clS ss) s; generalize clS ss = cl at hbr xM hcm qj0 hd1; simp only [Int.toNat_natCast]; obtain ⟨R, hR⟩ : ∃ R, qv0 ss s = R := ⟨_, rfl⟩; rw [hR] at hbr ⊢; rw [hn] at z60 zst qD7 s3 hbr xM hcm qj0; clear qg9 hR; refine qc 141 fun w0 out => ?_; refine W64 ?_; refine qa wI ?_; refine zQ ?_; refine W18 ?_; refine bK ?_; refine qa gw ?_; refine W54 ?_; refine xS ?_; refine qa uU ?_
     refine jc0 ?_; refine xS ?_; refine qh (post := ?pc228) rfl (zS (args := [_]) ?hc228 ⟨func22, rfl, rfl, rfl, rfl⟩ rfl rfl rfl rfl) ?_
     case hc228 => exact qD7
     rintro _ ⟨T, rfl, k84, hTs⟩ -; refine qs3 ?_; refine q9 rfl (zN (vs := [(0, _)]) (zs := [.i 0]) 61 underlying42 zz rfl rfl zj zj zj rfl rfl rfl rfl rfl rfl rfl) ?_; refine xd ?_; refine qe8 ?_; refine q9 rfl (zp (l := [.i 0, .nil]) 13 xN rfl rfl rfl rfl) ?_; refine q34 ?_; refine qq 13 1 902 2 35 rfl rfl rfl (by simp [S.clean, V.has, V.hasL, V.cs, xg, xm, xc, zE]) ?_; refine zW ?_
     clear qD7 wI gw uU
     have jU2 : ∀ q p, q < n → p < n → (tG T q p = false ↔ clG cl q = clG cl p) := fun q p hq hp => (hTs q p hq hp).trans (qj0 q p hq hp).symm
     clear hTs qj0
     refine qF (fun μ s' => ∃ (l : List Nat) (P : List St), n - P.length ≤ μ ∧ gG ss cl (n - P.length) l P = R ∧ bN cl l ∧ (∀ q ∈ l, q < n) ∧ P.length ≤ l.length ∧ s' = ⟨141, [(2, .ref 2 0), (8, .i PV), (9, .ref 9 0), (11, .d (.sl 1 24 (T.map qg8))), (12, .own 61 1 l.length false), (13, .ref 13 0), (14, .i P.length)], [(2, ⟨24, [.i 0, .nil], false, 0⟩), (9, ⟨24, [.i (s : Int), .d (zq ss)], false, 0⟩), (61, ⟨3, l.map V.n, false, 1⟩), (13, ⟨24, [.i 0, .own 902 2 P.length (decide (P.length = 0))], false, 0⟩), (902, ⟨35, P.flatMap xT, decide (P.length = 0), 2⟩)], []⟩) ⟨n, _, ?_, [s], [], by simp, by simpa using hbr, hd1, fun q hq => by rw [mem_singleton] at hq; omega, by simp, rfl⟩ ?_
     ·exact q8
     clear hbr hd1; rintro μ s' ⟨l, P, hμ, hbr, hd, wB, wy, rfl⟩; obtain ⟨k, wu⟩ : ∃ k, P.length = k := ⟨_, rfl⟩; obtain ⟨lt, zk⟩ : ∃ k, l.length = k := ⟨_, rfl⟩; have hlm := qq2 hd wB xM hcm
     have qZ3 : (P.flatMap xT).length = k * 2 := by rw [vh (sz := 2) (fun _ => rfl), wu]
     rw [zk] at hlm; rw [wu, zk] at wy; rw [wu] at hμ hbr; simp only [wu, zk]
     by_cases hkl : k < lt
     ·obtain ⟨q, hq⟩ := zl zk hkl
      have hqn := wB q (mem_of_getElem? hq); obtain ⟨x, hx⟩ := zl hn hqn
      rw [show n - k = (n - k - 1) + 1 by omega, qL1 (by rw [wu]; exact hq) hx] at hbr
      obtain ⟨hx4, hxf, hxa⟩ := s3 x (mem_of_getElem? hx); obtain ⟨fin, A⟩ := x; simp only at hx4 hxa hbr; obtain ⟨la, xr⟩ : ∃ la, A.length = la := ⟨_, rfl⟩; rw [xr] at hx4; refine W60 ?_; refine jL2 ?_; refine qm ?_; refine qI rfl rfl (zp (l := [.i 0, .nil]) 15 xD rfl zT0 rfl rfl) ?_; refine jp8 ?_; refine W10 ?_; refine jp5 ?_; refine q9 rfl (zp (l := [.i 0, .nil]) 16 xD rfl zT0 rfl rfl) ?_
      refine q34 ?_; refine qq 16 1 903 4 47 rfl rfl rfl (by simp [S.clean, V.has, V.hasL, V.cs, xg, xm, xc, zE]) ?_; refine zW ?_; have qZ5 : wQ cl l (A.drop 0) [] = wQ cl l A [] := by rw [drop_zero]
      refine qb (fun s' => ∃ (i : Nat) (l' : List Nat) (o : List Ar), i ≤ la ∧ wQ cl l' (A.drop i) o = wQ cl l A [] ∧ bN cl l' ∧ (∀ q ∈ l', q < n) ∧ k < l'.length ∧ o.length = i ∧ s' = ⟨141, [(2, .ref 2 0), (8, .i PV), (9, .ref 9 0), (11, .d (.sl 1 24 (T.map qg8))), (12, .own 61 1 l'.length false), (13, .ref 13 0), (14, .i k), (15, .ref 15 0), (16, .ref 16 0), (17, .i i)], [(2, ⟨24, [.i 0, .nil], false, 0⟩), (9, ⟨24, [.i (s : Int), .d (zq ss)], false, 0⟩), (61, ⟨3, l'.map V.n, false, 1⟩), (13, ⟨24, [.i 0, .own 902 2 k (decide (k = 0))], false, 0⟩), (902, ⟨35, P.flatMap xT, decide (k = 0), 2⟩), (15, ⟨35, [.i fin, .d (zU A)], false, 0⟩), (16, ⟨35, [.i fin, .own 903 4 o.length (decide (o.length = 0))], false, 0⟩), (903, ⟨47, o.flatMap vG, decide (o.length = 0), 4⟩)], []⟩) (fun s' => la - s'.nat 17) ⟨_, ?_, 0, l, [], by omega, qZ5, hd, wB, by omega, rfl, rfl⟩ ?_
      ·rw [zk]
       exact q8
      clear qZ5 hd wB; rintro s' ⟨i, l', o, hi, zv, hd, wB, jy4, ho, rfl⟩; obtain ⟨lt', xn⟩ : ∃ k, l'.length = k := ⟨_, rfl⟩; have jy5 := qq2 hd wB xM hcm; rw [xn] at jy5 jy4
      have jy6 : (o.flatMap vG).length = i * 4 := by rw [vh (sz := 4) (fun _ => rfl), ho]
      have k85 : (l'.map V.n).length = lt' * 1 := by rw [length_map, xn, Nat.mul_one]
      simp only [xn, ho]
      by_cases vr : i < la
      ·obtain ⟨a, ha⟩ := zl xr vr
       have h3 := hxa a (mem_of_getElem? ha); simp only [xl, decide_eq_true_eq] at h3; rw [qY3 ha] at zv; obtain ⟨ai, ao, aw, at'⟩ := a; simp only at h3; obtain ⟨p, rfl⟩ := Int.eq_ofNat_of_zero_le h3.2.2.2.1; have wa : p < n := by omega
       refine yB ?_; refine q9 rfl (zp (l := [.i 0, .i 0, .i 0, .i 0]) 18 zO rfl zT0 rfl rfl) ?_; refine ve ?_; have hf0 := fndJ.zero cl l' p
       refine qb (fun s' => ∃ (j : Nat) (v : Int), j ≤ lt' ∧ fndJ cl l' p j v ∧ s' = ⟨141, [(2, .ref 2 0), (8, .i PV), (9, .ref 9 0), (11, .d (.sl 1 24 (T.map qg8))), (12, .own 61 1 lt' false), (13, .ref 13 0), (14, .i k), (15, .ref 15 0), (16, .ref 16 0), (17, .i i), (18, .ref 18 0), (19, .i v), (20, .i j)], [(2, ⟨24, [.i 0, .nil], false, 0⟩), (9, ⟨24, [.i (s : Int), .d (zq ss)], false, 0⟩), (61, ⟨3, l'.map V.n, false, 1⟩), (13, ⟨24, [.i 0, .own 902 2 k (decide (k = 0))], false, 0⟩), (902, ⟨35, P.flatMap xT, decide (k = 0), 2⟩), (15, ⟨35, [.i fin, .d (zU A)], false, 0⟩), (16, ⟨35, [.i fin, .own 903 4 i (decide (i = 0))], false, 0⟩), (903, ⟨47, o.flatMap vG, decide (i = 0), 4⟩), (18, ⟨47, [.i ai, .i ao, .i aw, .i (p : Int)], false, 0⟩)], []⟩) (fun s' => lt' - s'.nat 20) ⟨_, ?_, 0, -1, by omega, hf0, rfl⟩ ?_
       ·exact q8
       clear hf0; rintro s' ⟨j, v, hj, hf, rfl⟩
       by_cases vJ : j < lt'
       ·obtain ⟨q', hq'⟩ := zl xn vJ
        have jU3 := wB q' (mem_of_getElem? hq'); obtain ⟨r, hr, _, hrg⟩ := k84.row jU3; have hb := hrg p wa; have hmm := jU2 q' p jU3 wa; obtain ⟨tb, htb⟩ : ∃ tb, tG T q' p = tb := ⟨_, rfl⟩; rw [htb] at hb hmm; clear hrg htb
        cases tb with
        | true =>
         have hf2 := hf.no hq' fun h => by have := hmm.2 h; cases this
         clear hf; refine W60 ?_; refine W59 ?_; refine W44 ?_; refine ⟨_, ?_, ⟨j + 1, v, by omega, hf2, rfl⟩, ?_⟩
         ·exact q8
         exact zM
        | false =>
         have hf2 := hf.yes hq' (hmm.1 rfl); clear hf; refine W60 ?_; refine W59 ?_; refine W16 ?_; refine ve ?_; refine ⟨_, ?_, ⟨j + 1, (j : Int), by omega, hf2, rfl⟩, ?_⟩
         ·exact q8
         exact zM
       obtain rfl : j = lt' := by omega
       rw [← xn] at hf; have hfe := hf.end hd; clear hf
       rcases hfe with ⟨hv0, vY⟩ | ⟨w, rfl, hw1, hw2⟩
       ·obtain ⟨t1, t2⟩ := qY5 (a := ⟨ai, ao, aw, (p : Int)⟩) zx vY
        have hd2 := qQ9 hd vY; rw [t1, t2, xn] at zv; clear hd vY t1 t2; refine gC ?_; refine q9 rfl (zN (vs := [(0, _)]) (zs := [.i 0]) 118 underlying42 zz rfl rfl zj zj zj rfl rfl rfl rfl zT0 rfl rfl) ?_; refine W4 ?_; refine wn ?_; refine W89 ?_; refine W0 ?_; refine W34 ?_; refine zY ?_
        refine ⟨_, ?_, ⟨i + 1, l' ++ [p], o ++ [⟨ai, ao, aw, (j : Int)⟩], by omega, zv, hd2, fun q hq => ?_, by rw [length_append, xn]; omega, by simp [ho], rfl⟩, ?_⟩
        ·simp only [flatMap_append, flatMap_cons, flatMap_nil, append_nil, length_append, length_cons, length_nil, zero_add, map_append, map_cons, map_nil, xn, ho]
         exact q8
        ·rcases List.mem_append.1 hq with h | h
         ·exact wB q h
         rw [mem_singleton] at h; omega
        exact zM
       obtain ⟨t1, t2⟩ := qY6 (a := ⟨ai, ao, aw, (p : Int)⟩) zx hw2 hw1; rw [t1, t2] at zv; clear hw2 t1 t2
       iterate 26 refine Dv ?_
       refine W89 ?_; refine W0 ?_; refine W34 ?_; refine zY ?_; refine ⟨_, ?_, ⟨i + 1, l', o ++ [⟨ai, ao, aw, (w : Int)⟩], by omega, zv, hd, wB, by omega, by simp [ho], rfl⟩, ?_⟩
       ·simp only [flatMap_append, flatMap_cons, flatMap_nil, append_nil, length_append, length_cons, length_nil, zero_add, xn, ho]
        exact q8
       exact zM
      obtain rfl : i = la := by omega
      rw [List.drop_eq_nil_of_le zg, wQ] at zv; rw [← zv] at hbr; simp only at hbr; refine ve ?_; refine qs 16 1 32 (o.map arD) rfl rfl rfl zj rfl rfl (by rw [length_map, ho]) zg (vx (enc := arD) (sz := 4) (l := o) (fun _ => rfl) rfl) ?_; refine zW ?_; refine q9 rfl (zN (vs := [(0, _)]) (zs := [.i 0, .nil]) 136 underlying22 xD rfl rfl zj zj zj rfl rfl rfl rfl zT0 rfl rfl) ?_; refine W2 ?_
      refine W39 ?_; refine zY ?_; refine ⟨μ - 1, _, ?_, ⟨l', P ++ [⟨fin, o⟩], by rw [length_append, wu]; simp only [length_cons, length_nil]; omega, ?_, hd, wB, by rw [length_append, wu, xn]; simp only [length_cons, length_nil]; omega, rfl⟩, ?_⟩
      ·simp only [flatMap_append, flatMap_cons, flatMap_nil, append_nil, length_append, length_cons, length_nil, zero_add, wu, xn]
       exact q8
      ·rw [length_append, length_cons, length_nil, wu, show n - (k + (0 + 1)) = n - k - 1 by omega]
       exact hbr
      omega
     rw [qY2 zg] at hbr; subst hbr; refine q61 ?_; refine qs 13 1 32 (P.map stD) rfl rfl rfl zj rfl rfl (by rw [length_map, wu]) zg (vx (enc := stD) (sz := 2) (l := P) (fun _ => rfl) rfl) ?_; refine xB ?_; exact ⟨[_, _, _], zU3, .inr ⟨rfl, rfl⟩, zU0⟩
    have qe0 := qi9.mono fun v hv => show v = .tup [.agg [.i 0, .nil], .i 0, .i (w9 m)] by
     rcases hv with ⟨_, hv⟩ | ⟨h1, _⟩
     ·exact hv
     exact absurd h1 hpe
    rw [hE]; obtain ⟨e, he⟩ : ∃ e, w9 m = e := ⟨_, rfl⟩; rw [he] at hpe qe0 ⊢; clear hE h0 hdi xA qi9 he; obtain ⟨st, sts⟩ := m; refine qc 141 fun w0 out => ?_; refine W64 ?_; refine qa wI ?_; refine zQ ?_; refine W18 ?_; refine bK ?_; refine qa qe0 ?_; refine W54 ?_; refine xu ?_; refine W24 ?_; exact ⟨[_, _, _], zU3, .inl ⟨hpe, rfl⟩, zU0⟩
 have hE : leE m = zn m := by unfold leE; rw [if_pos h0]
 rw [qd7 h0] at wI; rw [hE]; obtain ⟨e, he⟩ : ∃ e, zn m = e := ⟨_, rfl⟩; rw [he] at wI h0 ⊢; obtain ⟨st, sts⟩ := m; refine qc 141 fun w0 out => ?_; refine W64 ?_; refine qa wI ?_; refine zQ ?_; refine W18 ?_; refine ve ?_; refine W24 ?_; exact ⟨[_, _, _], zU3, .inl ⟨h0, rfl⟩, zU0⟩
theorem jg0 (m : zr) : Fn prog 8 [mV m] (fun v => v = .tup [mV (leM m), .i (leV m), .i (leE m)]) := (j32 m).wkS (qd3 qF9)
def jg1 (x : Nat) : Int := if x ≠ big ∧ 1000000000 < x then 4 else 0
theorem jy7 (x : Nat) (f e : Int) (hf : qh8 x = f) (he : jg1 x = e) (hx : x ≤ big) : Fn prog 55 [.i (x : Nat)] (fun v => v = .tup [.i f, .i e]) := by
 have gI := yz; unfold qh8 at hf; unfold jg1 at he
 by_cases h1 : x = big
 ·rw [if_pos h1] at hf
  rw [if_neg (by simp [h1])] at he; subst hf he; refine qc 9 fun w0 out => ?_; refine uq ?_; exact ⟨[_, _], zU4, rfl, zU0⟩
 rw [if_neg h1] at hf
 by_cases h2 : 1000000000 < x
 ·rw [if_pos h2] at hf
  rw [if_pos ⟨h1, h2⟩] at he; subst hf he; refine qc 9 fun w0 out => ?_
  iterate 22 refine Dv ?_
  exact ⟨[_, _], zU4, rfl, zU0⟩
 rw [if_neg h2] at hf; rw [if_neg (by simp [h2])] at he; subst hf he; refine qc 9 fun w0 out => ?_; refine gC ?_; exact ⟨[_, _], zU4, rfl, zU0⟩
theorem j33 (m : zr) : Fn prog 25 [mV m] (fun v => qQ1 (emE m) (emR m) v) := by
 by_cases h0 : zn m = 0
 ·have hz := xj h0
  have gI := yz; obtain ⟨e, he⟩ : ∃ e, emE m = e := ⟨_, rfl⟩; obtain ⟨R, hR⟩ : ∃ R, emR m = R := ⟨_, rfl⟩
  have hE : e = if emV m.states m.states.length = true then 4 else if 400 < xp (emL m.states) then 5 else 0 := by rw [← he]; unfold emE; rw [if_neg (by simp [h0])]
  have hRR : e = 0 → R = ⟨m.start, emL m.states⟩ := fun h => by rw [← hR]; unfold emR; rw [if_pos (he.trans h)]
  rw [he, hR]; clear he hR; refine qD m 0 rfl fun hb wm => ?_; clear wm; have jg2 := jI3 m h0; obtain ⟨st, sts⟩ := m; have jU4 := Fn.eqi (wz ⟨st, sts⟩) h0; simp only at hz hE hRR jg2 hb; obtain ⟨n, hn⟩ : ∃ n, sts.length = n := ⟨_, rfl⟩; obtain ⟨hz1, hz2, hz3, hz4⟩ := hz; rw [hn] at hz1 hz3 hz4 hE jg2 hb; obtain ⟨X, hX⟩ : ∃ X, mt (hop sts) n = X := ⟨_, rfl⟩
  have hXg : ∀ q, q < n → X[q]? = some (bl (hop sts q) n) := fun q hq => by rw [← hX]; exact qX3 hq
  have hXl : X.length = n := by rw [← hX, jl6]
  rw [hX] at jg2; clear hX h0; refine qc 165 fun w0 out => ?_; refine W96 ?_; refine qa jU4 ?_; refine qk6 ?_; refine qa jg2 ?_; refine qs3 ?_; refine qe8 ?_; refine q9 rfl (zp (l := [.i 0, .nil]) 6 xN rfl rfl rfl rfl) ?_; refine W31 ?_; refine qq 6 1 901 2 35 rfl rfl rfl zT4 ?_; refine xB ?_
  refine qb (fun s' => ∃ (q : Nat) (P : List St) (O : Bool), q ≤ n ∧ P.length = q ∧ P = bl (fun q => ⟨qh8 (emF sts q), emA sts q⟩) q ∧ O = emV sts q ∧ s' = ⟨165, [(1, .ref 1 0), (2, .ref 2 0), (5, .d (.sl 1 24 (X.map qi3))), (6, .ref 6 0), (7, .b O), (8, .i q)], [(1, ⟨24, [.i st, .d (zq sts)], false, 0⟩), (2, ⟨24, [.i 0, .nil], false, 0⟩), (6, ⟨24, [.i st, .own 901 2 q (decide (q = 0))], false, 0⟩), (901, ⟨35, P.flatMap xT, decide (q = 0), 2⟩)], []⟩) (fun s' => n - s'.nat 8) ⟨_, ?_, 0, [], false, by omega, rfl, rfl, rfl, rfl⟩ ?_
  ·exact q8
  rintro s' ⟨q, P, O, hq, wy, hP, hO, rfl⟩
  have qZ3 : (P.flatMap xT).length = q * 2 := by rw [vh (sz := 2) (fun _ => rfl), wy]
  by_cases zk : q < n
  ·have hXq := hXg q zk
   obtain ⟨dF, hD⟩ : ∃ dF, hop sts q = dF := ⟨_, rfl⟩; rw [hD] at hXq; obtain ⟨row, vi⟩ : ∃ row, bl dF n = row := ⟨_, rfl⟩
   have hrg : ∀ p, p < n → row[p]? = some (dF p) := fun p hp => by rw [← vi]; exact w8 hp
   have hrl : row.length = n := by rw [← vi, w4]
   rw [vi] at hXq
   have jf7 : ∀ p, dF p ≤ big := fun p => by rw [← hD]; exact (bP p).1
   have hF0 : emF sts q = wv dF sts n := by unfold emF; rw [hD, hn]
   have hA0 : emA sts q = inL (yY dF sts n) := by unfold emA; rw [hD, hn]
   have hO0 := qW4 sts q; unfold emO at hO0; rw [← hO] at hO0; clear hD vi hE hRR; refine yB ?_; refine q63 ?_; refine qB 10 902 4 47 rfl (by simp [S.clean, V.has, V.hasL, V.cs, xg, zE]) ?_; refine zW ?_
   refine qb (fun s' => ∃ (p : Nat) (A : List Ar) (ak F : Nat), p ≤ n ∧ F = wv dF sts p ∧ A = yY dF sts p ∧ A.length = ak ∧ s' = ⟨165, [(1, .ref 1 0), (2, .ref 2 0), (5, .d (.sl 1 24 (X.map qi3))), (6, .ref 6 0), (7, .b O), (8, .i q), (9, .i F), (10, .own 902 4 ak (decide (ak = 0))), (11, .i p)], [(1, ⟨24, [.i st, .d (zq sts)], false, 0⟩), (2, ⟨24, [.i 0, .nil], false, 0⟩), (6, ⟨24, [.i st, .own 901 2 q (decide (q = 0))], false, 0⟩), (901, ⟨35, P.flatMap xT, decide (q = 0), 2⟩), (902, ⟨47, A.flatMap vG, decide (ak = 0), 4⟩)], []⟩) (fun s' => n - s'.nat 11) ⟨_, ?_, 0, [], 0, big, by omega, rfl, rfl, rfl, rfl⟩ ?_
   ·exact q8
   rintro s' ⟨p, A, ak, F, hp, hF, hA, w5, rfl⟩
   by_cases qG3 : p < n
   ·obtain ⟨x, hx⟩ := zl hn qG3
    have hrp := hrg p qG3
    by_cases hd : dF p = big
    ·rw [hd] at hrp
     have hF' := qK2 (D := dF) hx hd; have hA' := qL6 (sts := sts) hd; refine bL ?_; refine ⟨_, ?_, ⟨p + 1, A, ak, F, by omega, by rw [hF', hF], by rw [hA', hA], w5, rfl⟩, ?_⟩
     ·exact q8
     exact zM
    have hdl := jf7 p; have hx4 := hz4 x (mem_of_getElem? hx); have jZ3 := qh9 (D := dF) (sts := sts) (k := p + 1) zg hz2; have hxl := qp9 (mem_of_getElem? hx); obtain ⟨xf, xa⟩ := x; simp only [vy, decide_eq_true_eq] at hx4 hxl; obtain ⟨⟨hf0, hf1⟩, hxa⟩ := hx4; obtain ⟨f, rfl⟩ := Int.eq_ofNat_of_zero_le hf0
    have qu7 := fun h1 h2 => j68 (D := dF) hx hd h1 h2
    have hge := fun h => qF2 (D := dF) hx h
    have qi6 := fun h => qW1 (D := dF) hx h
    have xE := qL7 (D := dF) hx hd; simp only [Int.toNat_natCast] at qu7 hge qi6 xE hf1; obtain ⟨d, hdd⟩ : ∃ d, dF p = d := ⟨_, rfl⟩; rw [hdd] at hrp hd hdl qu7 hge xE; obtain ⟨la, xr⟩ : ∃ la, xa.length = la := ⟨_, rfl⟩; obtain ⟨F', hF'⟩ : ∃ F', wv dF sts (p + 1) = F' := ⟨_, rfl⟩; rw [hF', ← hF] at qu7 hge qi6; have hFb : F ≤ big := by rw [hF]; exact qd8 _ _ _
    rw [xE] at jZ3
    iterate 31 refine Dv ?_
    refine q9 rfl (zp (l := [.i 0, .nil]) 12 xD rfl zT0 rfl rfl) ?_; refine zR ?_
    refine qn (fun s' => s' = ⟨165, [(1, .ref 1 0), (2, .ref 2 0), (5, .d (.sl 1 24 (X.map qi3))), (6, .ref 6 0), (7, .b O), (8, .i q), (9, .i F'), (10, .own 902 4 ak (decide (ak = 0))), (11, .i p), (12, .ref 12 0)], [(1, ⟨24, [.i st, .d (zq sts)], false, 0⟩), (2, ⟨24, [.i 0, .nil], false, 0⟩), (6, ⟨24, [.i st, .own 901 2 q (decide (q = 0))], false, 0⟩), (901, ⟨35, P.flatMap xT, decide (q = 0), 2⟩), (902, ⟨47, A.flatMap vG, decide (ak = 0), 4⟩), (12, ⟨35, [.i f, .d (zU xa)], false, 0⟩)], []⟩) ?_ ?_
    ·clear hF hF'
     by_cases hfi : f = 1000000001
     ·have hFF : F' = F := qi6 zg
      rw [hFF]; apply qg; refine W46 ?_; refine qC2 ?_; refine ⟨_, ?_, rfl⟩; exact q8
     by_cases hc : d + f < F
     ·have hFF : F' = d + f := qu7 zg hc
      rw [hFF, Int.natCast_add]; apply qg; refine W46 ?_; refine W16 ?_; refine Dv ?_; refine qi [(0, true), (1, true), (2, true), (3, true), (4, true), (5, true), (6, true), (7, true), (8, true), (9, true), (10, true)] (fun i => !([] : List Nat).contains i) 11 zh zh rfl zh ?_; refine xu ?_; refine W16 ?_; refine ⟨_, ?_, rfl⟩; exact q8
     have hFF : F' = F := hge hc; rw [hFF]; apply qg; refine W46 ?_; refine qC2 ?_; refine ⟨_, ?_, rfl⟩; exact q8
    rintro s' rfl; clear qu7 hge qi6 hF; refine zW ?_
    refine qb (fun s' => ∃ (j : Nat) (A : List Ar) (ak : Nat), j ≤ la ∧ A = yY dF sts p ++ shL d (xa.take j) ∧ A.length = ak ∧ s' = ⟨165, [(1, .ref 1 0), (2, .ref 2 0), (5, .d (.sl 1 24 (X.map qi3))), (6, .ref 6 0), (7, .b O), (8, .i q), (9, .i F'), (10, .own 902 4 ak (decide (ak = 0))), (11, .i p), (12, .ref 12 0), (13, .i j)], [(1, ⟨24, [.i st, .d (zq sts)], false, 0⟩), (2, ⟨24, [.i 0, .nil], false, 0⟩), (6, ⟨24, [.i st, .own 901 2 q (decide (q = 0))], false, 0⟩), (901, ⟨35, P.flatMap xT, decide (q = 0), 2⟩), (902, ⟨47, A.flatMap vG, decide (ak = 0), 4⟩), (12, ⟨35, [.i f, .d (zU xa)], false, 0⟩)], []⟩) (fun s' => la - s'.nat 13) ⟨_, ?_, 0, A, ak, by omega, by rw [hA]; simp [shL], w5, rfl⟩ ?_
    ·exact q8
    clear hA w5; rintro s' ⟨j, A, ak, hj, hA, w5, rfl⟩
    have xA : (A.flatMap vG).length = ak * 4 := by rw [vh (sz := 4) (fun _ => rfl), w5]
    by_cases qV5 : j < la
    ·obtain ⟨a, ha⟩ := zl xr qV5
     have ham := hxa a (mem_of_getElem? ha); simp only [xl, decide_eq_true_eq] at ham; obtain ⟨e, he⟩ : ∃ e, emp a = e := ⟨_, rfl⟩; have hem := qK6 a e he
     have wb := fun h => qZ0 (d := d) ha (he.trans h)
     have qi7 := fun h => qZ1 (d := d) ha (he.trans h)
     have hak : e = false → ak < 400 := fun h => by grind [shL, length_map, List.take_sublist, length_append, length_cons, length_nil]
     obtain ⟨ai, ao, aw, at'⟩ := a; simp only [shf] at qi7 ham; clear he
     cases e with
     | true =>
      have hs := wb rfl; clear wb qi7 hak; refine jO2 ?_; refine zW ?_; refine qa hem ?_; refine zQ ?_; refine qe rfl rfl (qF6 rfl rfl) ?_; refine xB ?_; refine ⟨_, ?_, ⟨j + 1, A, ak, by omega, by rw [hs, hA], w5, rfl⟩, ?_⟩
      ·exact q8
      exact zM
     | false =>
      have hs := qi7 rfl; have kc4 := hak rfl; clear wb qi7 hak; refine jO2 ?_; refine zW ?_; refine qa hem ?_; refine zQ ?_; refine qe rfl rfl (qq0 rfl rfl) ?_; refine zR ?_
      refine qi [(0, true), (1, true), (2, true), (3, true), (4, true), (5, true), (6, true), (7, true), (8, true), (9, true), (10, true), (11, true), (12, true), (13, true), (14, true), (15, true), (16, true), (17, true), (18, false), (19, false), (20, false)] (fun i => !([19, 20] : List Nat).contains i) 21 zh zh rfl zh ?_; refine uy ?_
      refine qw rfl rfl rfl (fun _ _ h => h) (xI (vs := [(0, _), (1, _), (2, _), (3, _)]) (zs := [.i 0, .i 0, .i 0, .i 0]) qs0 zO rfl rfl rfl rfl) ?_; refine qm ?_; refine qI rfl rfl (zN (vs := [(0, _)]) (zs := [.i 0, .i 0, .i 0, .i 0]) 118 underlying33 zO rfl rfl zj zj zj rfl rfl rfl rfl zT0 rfl rfl) ?_; refine qO ?_
      refine qo rfl rfl rfl (xK underlying33 zO rfl zj rfl rfl rfl rfl rfl rfl zT5 zT0 rfl rfl rfl rfl rfl rfl rfl zj zg zg rfl) ?_; refine g0 ?_; refine qH rfl rfl rfl rfl (yE rfl rfl) ?_; refine qf1 ?_; refine ⟨_, ?_, ⟨j + 1, A ++ [⟨ai, ao, (d : Int) + aw, at'⟩], ak + 1, by omega, by rw [hs, ← append_assoc, ← hA], by simp [w5], rfl⟩, ?_⟩
      ·simp only [flatMap_append, flatMap_cons, flatMap_nil, append_nil]
       exact q8
      exact zM
    rw [take_of_length_le zg, ← xE] at hA; refine uq ?_; refine ⟨_, ?_, ⟨p + 1, A, ak, F', by omega, hF'.symm, hA, w5, rfl⟩, ?_⟩
    ·exact q8
    exact zM
   obtain rfl : p = n := by omega
   have hA4 : A.length ≤ 400 := by rw [hA]; exact qh9 zg hz2
   have w3 := qi4 A hA4; have hlg := j31 (inO A) (by rw [gg]; exact hA4); have hLe : lst (inO A) = emA sts q := by rw [hA0, hA]; rfl
   rw [← hF] at hF0; have hFb : F ≤ big := by rw [hF]; exact qd8 _ _ _
   rw [hLe] at hlg; obtain ⟨L, hL⟩ : ∃ L, emA sts q = L := ⟨_, rfl⟩; have hLl : L.length ≤ 400 := by grind [le_trans, qF4]
   obtain ⟨t, ht⟩ : ∃ t, qh8 F = t := ⟨_, rfl⟩; obtain ⟨u, hu⟩ : ∃ u, jg1 F = u := ⟨_, rfl⟩; have q98 := jy7 F t u ht hu hFb; have hou : decide (F ≠ big ∧ 1000000000 < F) = decide (u ≠ 0) := by grind [jg1, big]
   have hPn : P ++ [⟨t, L⟩] = bl (fun q => ⟨qh8 (emF sts q), emA sts q⟩) (q + 1) := by grind [bl, List.range_succ]
   rw [hF0, hou, hL] at hO0; rw [hL] at hlg; clear hou hu ht hL hLe hF hF0 hA0 hA hP hrg; refine W53 ?_; refine qk 10 32 (A.map arD) rfl rfl rfl (by rw [length_map, w5]) zg (vx (enc := arD) (sz := 4) (l := A) (fun _ => rfl) rfl) ?_; refine zR ?_; refine qa w3 ?_; refine zQ ?_; refine qa hlg ?_; refine W25 ?_; refine qa q98 ?_; refine qs4 ?_
   refine qn (fun s' => ∃ B : Bool, B = (O || decide (u ≠ 0)) ∧ s' = ⟨165, [(1, .ref 1 0), (2, .ref 2 0), (5, .d (.sl 1 24 (X.map qi3))), (6, .ref 6 0), (7, .b B), (8, .i q), (10, .d (zU L)), (15, .i t)], [(1, ⟨24, [.i st, .d (zq sts)], false, 0⟩), (2, ⟨24, [.i 0, .nil], false, 0⟩), (6, ⟨24, [.i st, .own 901 2 q (decide (q = 0))], false, 0⟩), (901, ⟨35, P.flatMap xT, decide (q = 0), 2⟩)], []⟩) ?_ ?_
   ·skip
    cases O with
    | true =>
     refine xB ?_; refine ⟨_, ?_, true, by simp, rfl⟩; exact q8
    | false =>
     by_cases hE1 : u = 0
     ·skip
      refine xB ?_; refine ⟨_, ?_, false, by simp [hE1], rfl⟩; exact q8
     skip; refine xB ?_; refine ⟨_, ?_, true, by simp [hE1], rfl⟩; exact q8
   rintro s' ⟨B1, hB1, rfl⟩; rw [← Bool.or_assoc, ← hB1] at hO0; obtain ⟨lk, hlk⟩ : ∃ lk, L.length = lk := ⟨_, rfl⟩; rw [hlk] at hLl; clear q98 hB1; refine zC ?_
   refine qb (fun s' => ∃ (k : Nat) (B : Bool), k ≤ lk ∧ B = (B1 || (L.take k).any ovA) ∧ s' = ⟨165, [(1, .ref 1 0), (2, .ref 2 0), (5, .d (.sl 1 24 (X.map qi3))), (6, .ref 6 0), (7, .b B), (8, .i q), (10, .d (zU L)), (15, .i t), (17, .i k)], [(1, ⟨24, [.i st, .d (zq sts)], false, 0⟩), (2, ⟨24, [.i 0, .nil], false, 0⟩), (6, ⟨24, [.i st, .own 901 2 q (decide (q = 0))], false, 0⟩), (901, ⟨35, P.flatMap xT, decide (q = 0), 2⟩)], []⟩) (fun s' => lk - s'.nat 17) ⟨_, ?_, 0, B1, by omega, zx, rfl⟩ ?_
   ·exact q8
   rintro s' ⟨k, B, hk, hB, rfl⟩
   by_cases qu8 : k < lk
   ·obtain ⟨a, ha⟩ := zl hlk qu8
    have vl : (B1 || (L.take (k + 1)).any ovA) = (B || decide (1000000000 < a.w)) := by
     rw [x5 ha, List.any_append, ← Bool.or_assoc, ← hB]; simp [ovA]
    obtain ⟨ai, ao, aw, at'⟩ := a; simp only at vl; clear hB
    cases B with
    | true =>
     refine bK ?_; refine ⟨_, ?_, ⟨k + 1, true, by omega, by rw [vl]; simp, rfl⟩, ?_⟩
     ·exact q8
     exact zM
    | false =>
     by_cases hv : 1000000000 < aw
     ·skip
      refine bK ?_; refine ⟨_, ?_, ⟨k + 1, true, by omega, by rw [vl]; simp [hv], rfl⟩, ?_⟩
      ·exact q8
      exact zM
     skip; refine bK ?_; refine ⟨_, ?_, ⟨k + 1, false, by omega, by rw [vl]; simp [hv], rfl⟩, ?_⟩
     ·exact q8
     exact zM
   rw [take_of_length_le zg] at hB; refine vF ?_; refine qe rfl rfl (xI (vs := [(0, _), (1, _)]) (zs := [.i 0, .nil]) qa2 xD rfl rfl rfl rfl) ?_; refine q9 rfl (zN (vs := [(0, _)]) (zs := [.i 0, .nil]) 153 underlying22 xD rfl rfl zj zj zj rfl rfl rfl rfl zT0 rfl rfl) ?_; refine W2 ?_; refine W39 ?_; refine zY ?_
   refine ⟨_, ?_, ⟨q + 1, P ++ [⟨t, L⟩], B, by omega, by simp [wy], hPn, by rw [hO0, hB], rfl⟩, ?_⟩
   ·simp only [flatMap_append, flatMap_cons, flatMap_nil, append_nil]
    exact q8
   exact zM
  obtain rfl : q = n := by omega
  rw [← hO] at hE; have hPe : P = emL sts := by rw [hP, emL, hn]
  have hfo := jd1 (m := ⟨st, P⟩) (by simp only [wy]; omega); have xY := jd2 (m := ⟨st, P⟩) (by simp only [wy]; omega)
  have hPa : xp P ≤ 1000000000 := by
   have h1 : ∀ x ∈ P, x.arcs.length ≤ 400 := fun x hx => by grind [List.getElem?_of_mem, yx, emA, le_trans, qF4, qh9]
   have h2 : ∀ l : List St, (∀ x ∈ l, x.arcs.length ≤ 400) → xp l ≤ l.length * 400 := by
    intro l
    induction l with
    | nil => simp [xp]
    | cons y l ih =>
     intro hl
     have h3 := ih fun x hx => hl x (by simp [hx])
     have h4 := hl y zx; simp only [xp, map_cons, List.sum_cons, length_cons, succ_mul] at h3 ⊢; omega
   have h3 := h2 P h1; rw [wy] at h3; omega
  rw [← hPe] at hE hRR; simp only at hfo xY; have hfo := hfo hPa; have xY := xY hPa
  cases O with
  | true =>
   rw [if_pos rfl] at hE; refine yW ?_; refine W11 ?_; exact ⟨[_, _], zU1, .inl ⟨by rw [hE]; decide, by rw [hE]; rfl⟩, zU0⟩
  | false =>
   rw [if_neg zx] at hE; refine yW ?_; apply qg; refine qs 6 1 32 (P.map stD) rfl rfl rfl zj rfl rfl (by rw [length_map, wy]) zg (vx (enc := stD) (sz := 2) (l := P) (fun _ => rfl) rfl) ?_
   by_cases h4 : 400 < xp P
   ·rw [if_pos h4] at hE
    have hc := xY (.inr h4); refine zR ?_; refine qa hc ?_; refine W47 ?_; refine q9 rfl (zp (l := [.i 0, .nil]) 18 xN rfl rfl rfl rfl) ?_; refine ve ?_; exact ⟨[_, _], zU1, .inl ⟨by rw [hE]; decide, by rw [hE]; rfl⟩, zU0⟩
   rw [if_neg h4] at hE; have hc := hfo (by rw [wy]; omega); refine zR ?_; refine qa hc ?_; refine W47 ?_; refine q9 rfl (zp (l := [.i 0, .nil]) 18 xN rfl rfl rfl rfl) ?_; refine ve ?_; exact ⟨[_, _], zU1, .inr ⟨hE, by rw [hRR hE]; rfl⟩, zU0⟩
 obtain ⟨e, he⟩ : ∃ e, zn m = e := ⟨_, rfl⟩; have hE : emE m = e := by unfold emE; rw [if_pos h0, he]
 rw [hE]; rw [he] at h0; obtain ⟨⟨st, sts⟩, rfl⟩ : ∃ m', m' = m := ⟨m, rfl⟩; refine qc 165 fun w0 out => ?_; refine W96 ?_; refine qa (Fn.eqi (wz ⟨st, sts⟩) he) ?_; refine qf0 ?_; refine W14 ?_; exact ⟨[_, _], zU1, .inl ⟨h0, rfl⟩, zU0⟩
def g9 (sts : List St) (l : List (Nat × Nat)) : Int := l.foldl (fun b p => if (sts[p.1]?.getD ⟨0, []⟩).fin ≠ 1000000001 ∧ (b < 0 ∨ (p.2 : Int) + (sts[p.1]?.getD ⟨0, []⟩).fin < b) then (p.2 : Int) + (sts[p.1]?.getD ⟨0, []⟩).fin else b) (-1)
theorem j88 {sts : List St} {l : List (Nat × Nat)} {p : Nat × Nat} {x : St} (h : l[k]? = some p) (hx : sts[p.1]? = some x) : g9 sts (l.take (k + 1)) = if x.fin ≠ 1000000001 ∧ (g9 sts (l.take k) < 0 ∨ (p.2 : Int) + x.fin < g9 sts (l.take k)) then (p.2 : Int) + x.fin else g9 sts (l.take k) := by
 unfold g9; rw [x5 h, List.foldl_append]; simp only [List.foldl_cons, List.foldl_nil, hx, getD_some]
theorem jy8 (st : Int) (sts : List St) (l : List (Nat × Nat)) (hl : l.length ≤ 1000) (hb : ∀ x ∈ l, je9 x ∧ x.1 < sts.length) (xZ : sts.length ≤ 60) (ur : ∀ x ∈ sts, vy x.fin = true) : Fn prog 95 [.d (uk l), mV ⟨st, sts⟩] (fun v => v = .i (g9 sts l)) := by
 obtain ⟨n, hn⟩ : ∃ n, l.length = n := ⟨_, rfl⟩; obtain ⟨ns, hns⟩ : ∃ ns, sts.length = ns := ⟨_, rfl⟩; rw [hn] at hl; rw [hns] at xZ hb
 have hB : ∀ k, k ≤ n → -1 ≤ g9 sts (l.take k) ∧ g9 sts (l.take k) ≤ 2000000000000 := by
  intro k
  induction k with
  | zero => intro _; rw [take_zero]; unfold g9; simp
  | succ k ih =>
   intro hk; have ih := ih zg
   obtain ⟨p, hp⟩ := zl hn (show k < n by omega)
   obtain ⟨⟨h1, h2⟩, h3⟩ := hb p (mem_of_getElem? hp); obtain ⟨x, hx⟩ := zl hns h3; have h4 := ur x (mem_of_getElem? hx); simp only [vy, decide_eq_true_eq] at h4; rw [j88 hp hx]
   split <;> omega
 refine qc 42 fun w0 out => ?_; refine qB8 ?_; refine wn ?_; refine qb (fun s' => ∃ (k : Nat) (b : Int), k ≤ n ∧ b = g9 sts (l.take k) ∧ s' = ⟨42, [(3, .ref 3 0), (5, .i b), (9, .d (uk l)), (10, .i n), (11, .i k)], [(3, ⟨24, [.i st, .d (zq sts)], false, 0⟩)], []⟩) (fun s' => n - s'.nat 11) ⟨_, ?_, 0, -1, by omega, rfl, rfl⟩ ?_
 ·exact q8
 rintro s' ⟨k, b, hk, hb0, rfl⟩
 by_cases zk : k < n
 ·obtain ⟨x, hx⟩ := zl hn zk
  obtain ⟨⟨b1, b2⟩, b3⟩ := hb x (mem_of_getElem? hx); obtain ⟨y, hy⟩ := zl hns b3; have h4 := ur y (mem_of_getElem? hy); have hs := j88 hx hy; have hBk := hB k hk; rw [← hb0] at hs hBk; obtain ⟨p, q⟩ := x; obtain ⟨f, A⟩ := y; simp only at b1 b2 b3 hy hs h4; simp only [vy, decide_eq_true_eq] at h4; clear hb0
  by_cases c1 : f = 1000000001
  ·skip
   refine W77 ?_; refine gi ?_; refine W15 ?_; refine W15 ?_; refine W15 ?_; refine xX ?_; refine ⟨_, ?_, ⟨k + 1, b, by omega, by rw [hs, if_neg (fun h => h.1 c1)], rfl⟩, ?_⟩
   ·exact q8
   exact zM
  by_cases c2 : b < 0
  ·skip
   refine W77 ?_
   iterate 40 refine Dv ?_
   refine ⟨_, ?_, ⟨k + 1, (q : Int) + f, by omega, by rw [hs, if_pos ⟨c1, .inl c2⟩], rfl⟩, ?_⟩
   ·exact q8
   exact zM
  by_cases c3 : (q : Int) + f < b
  ·skip
   refine W77 ?_
   iterate 40 refine Dv ?_
   refine ⟨_, ?_, ⟨k + 1, (q : Int) + f, by omega, by rw [hs, if_pos ⟨c1, .inr c3⟩], rfl⟩, ?_⟩
   ·exact q8
   exact zM
  skip; refine W77 ?_
  iterate 34 refine Dv ?_
  refine ⟨_, ?_, ⟨k + 1, b, by omega, by rw [hs, if_neg (fun h => h.2.elim c2 c3)], rfl⟩, ?_⟩
  ·exact q8
  exact zM
 obtain rfl : k = n := by omega
 have wR : l.take k = l := take_of_length_le zg; rw [wR] at hb0; refine xu ?_; exact ⟨[_], ⟨rfl, trivial⟩, by rw [← hb0]; rfl, zU0⟩
end Go.Proofs.YthiknkcigcglkaaGreatDoor
