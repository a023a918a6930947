/- Part 26 of what the law SameSames rests on. -/
import Derived.Test.YthiknkcigcglkaaGreatDoorPkSS18
import Derived.Test.YthiknkcigcglkaaGreatDoorPkSS21
import Derived.Test.YthiknkcigcglkaaGreatDoorPkSS24
namespace Go.Proofs.YthiknkcigcglkaaGreatDoor
open Go.RowKit
open Go.Proofs.Tryz
open List (all_eq_true append_assoc append_nil ext_getElem? flatMap_append flatMap_cons flatMap_nil getD_eq_getElem?_getD length_append length_cons length_map length_nil map_append map_cons map_nil mem_of_getElem? take_of_length_le zipIdx_cons)
open Nat (le_refl le_trans)
open Option (map_some)
set_option linter.unusedSimpArgs false
set_option linter.unusedVariables false
set_option maxRecDepth 100000
set_option maxHeartbeats 8000000
variable {w : World} {q : Nat → Prop} {g : Nat → Nat × Nat} {a y : Ar} {d f i j n p : Nat} {l : List Ar} {P sts : List St} {x : St}
abbrev ye (p : K3) : Value := .agg #[.int .i64 p.1, .int .i64 p.2.1, .int .i64 p.2.2]
theorem jm3 : List.range' 0 3 = [0, 1, 2] := rfl
theorem k81 (n : Nat) (a1 a2 a3 b1 b2 b3 : Int) (w : World) : (Op.equalIn (n + 2) 134 (.agg #[.int .i64 a1, .int .i64 a2, .int .i64 a3]) (.agg #[.int .i64 b1, .int .i64 b2, .int .i64 b3])).run prog w = .ok (decide (a1 = b1) && decide (a2 = b2) && decide (a3 = b3)) w := by
 have hi : ∀ (x y : Int) (w : World), (Op.equalIn (n + 1) 3 (.int .i64 x) (.int .i64 y)).run prog w = .ok (x == y) w := fun x y w => by simp [go_sem]
 unfold Op.equalIn; simp only [Sem.run_bind, run_underlying underlying134, Result.andThen_ok]
 by_cases h1 : a1 = b1 <;> by_cases h2 : a2 = b2 <;> by_cases h3 : a3 = b3 <;> simp [jm3, go_sem, hi, h1, h2, h3]
theorem eqT (a b : K3) (w : World) : (Op.equal 134 (ye a) (ye b)).run prog w = .ok (decide (a = b)) w := by
 obtain ⟨a1, a2, a3⟩ := a; obtain ⟨b1, b2, b3⟩ := b; refine (k81 9998 a1 a2 a3 b1 b2 b3 w).trans ?_
 congr 1
 rw [Bool.eq_iff_iff]; simp [and_assoc]
theorem jT7 (b : Bool) (a : K3) (w : World) : (Instr.checkKey b 10000 134 (ye a)).run prog w = .ok () w := by
 have : ∀ n : Nat, (Instr.checkKey b (n + 2) 134 (ye a)).run prog w = .ok () w := fun n => by
  have hi : ∀ (x : Int) (w : World), (Instr.checkKey b (n + 1) 3 (.int .i64 x)).run prog w = .ok () w := fun x w => by simp [Instr.checkKey, go_sem]
  unfold Instr.checkKey; simp only [Sem.run_bind, run_underlying underlying134, Result.andThen_ok]; simp [jm3, ye, go_sem, hi]
 exact this 9998
theorem jT8 (a : K3) (w : World) : ∀ (l : List (K3 × Int)) (i j : Nat), (Instr.findAsking 134 (ye a) (((zu ye l).zipIdx j).map fun x => ({ key := x.1.1, val := x.1.2, born := x.2 } : MapEntry)) i).run prog w = .ok ((xQ l a i).map fun x => (x.1, .int .i64 x.2)) w
 | [], i, j => by simp [Instr.findAsking, zu, xQ]
 | (k, v) :: l, i, j => by
  have ih := jT8 a w l (i + 1) (j + 1); simp only [zu, map_cons, zipIdx_cons, Instr.findAsking, Sem.run_bind, eqT, Result.andThen_ok, xQ] at ih ⊢
  by_cases e : a = k
  ·subst e; simp
  grind
theorem gP : KeyOk prog 134 ye := by
 refine ⟨jT7, fun l a w => ?_, fun a => ?_⟩
 ·have qV7 : ∀ (l : List (K3 × Int)) (j : Nat), l ≠ [] → ∀ n e, Instr.findNow (.array n e) (ye a) (((zu ye l).zipIdx j).map fun x => ({ key := x.1.1, val := x.1.2, born := x.2 } : MapEntry)) 0 = none := by
   intro l j hl n e
   cases l with
   | nil => exact absurd rfl hl
   | cons x l => simp [zu, zipIdx_cons, Instr.findNow, Instr.sameNow]
  simp only [Instr.findKey, Sem.run_bind, run_underlying underlying134, Result.andThen_ok, zB, List.toList_toArray]
  by_cases hl : l = []
  ·subst hl; simp [zu, Instr.findNow, xQ]
  rw [qV7 l 0 hl]; exact jT8 a w l 0 0
 have : ∀ n : Nat, Instr.sameBits (n + 2) (ye a) (ye a) = true := fun n => by simp [Instr.sameBits]
 exact this 9998
theorem q04 {a b d : Int} {v : Value} (h : VRep w q g (.agg [.i a, .i b, .i d]) v) : v = ye (a, b, d) := by
 cases h with
 | agg _ cs hl h =>
  match cs, hl with
  | [x, y, z], _ =>
   rw [VRep.p_eq (h 0 _ _ rfl rfl), VRep.p_eq (h 1 _ _ rfl rfl), VRep.p_eq (h 2 _ _ rfl rfl)]
theorem qY9 (k : K3) : VRep w q g (.agg [.i k.1, .i k.2.1, .i k.2.2]) (ye k) :=
 .agg _ [.int .i64 k.1, .int .i64 k.2.1, .int .i64 k.2.2] rfl fun j u y hu hy => by
  match j, hu, hy with
  | 0, hu, hy => simp at hu hy; subst hu hy; exact .d _ _ (.p _)
  | 1, hu, hy => simp at hu hy; subst hu hy; exact .d _ _ (.p _)
  | 2, hu, hy => simp at hu hy; subst hu hy; exact .d _ _ (.p _)
  | n + 3, hu, hy => simp at hu
def shf (d : Nat) (a : Ar) : Ar := ⟨a.i, a.o, (d : Int) + a.w, a.t⟩
def shL (d : Nat) (l : List Ar) : List Ar := (l.filter fun a => !emp a).map (shf d)
theorem qZ0 (h : l[j]? = some a) (he : emp a = true) : shL d (l.take (j + 1)) = shL d (l.take j) := by
 rw [x5 h, shL, List.filter_append]; simp [he, shL]
theorem qZ1 (h : l[j]? = some a) (he : emp a = false) : shL d (l.take (j + 1)) = shL d (l.take j) ++ [shf d a] := by
 rw [x5 h, shL, List.filter_append]; simp [he, shL]
theorem qL6 {D : Nat → Nat} (h : D p = big) : yY D sts (p + 1) = yY D sts p := by simp [yY, shA, h]
theorem qL7 {D : Nat → Nat} (hx : sts[p]? = some x) (h : D p ≠ big) : yY D sts (p + 1) = yY D sts p ++ shL (D p) x.arcs := by
 simp only [yY, shA, if_neg h, wo hx]; rfl
theorem qv4 {x : Nat} (hx : x ≤ big) : ul x = 1000000001 ↔ x = big := by grind [ul, big]
theorem jm4 {D : Nat → Nat} (hx : sts[p]? = some x) (hd : D p ≠ big) (hf : x.fin = (f : Int)) (hf1 : f ≠ 1000000001) (hb : D p + f < big) (ht : ul (wv D sts p) = 1000000001 ∨ ((D p + f : Nat) : Int) < ul (wv D sts p)) : ul (wv D sts (p + 1)) = if D p + f = 1000000001 then 1000000002 else ((D p + f : Nat) : Int) := by
 grind [qd8, wv, j68, ul, qF2, big, qv4]
theorem jm5 {D : Nat → Nat} (hx : sts[p]? = some x) (hf : x.fin = (f : Int)) (hb : D p + f < big) (h1 : ul (wv D sts p) ≠ 1000000001) (h2 : ¬ ((D p + f : Nat) : Int) < ul (wv D sts p)) : wv D sts (p + 1) = wv D sts p := by
 grind [qd8, qF2, wv, big, qv4, ul]
theorem jx8 {α : Type} {p : α → Bool} {l l' : List α} (h : l.Perm l') : l.any p = l'.any p := by grind
abbrev ovA (a : Ar) : Bool := decide (1000000000 < a.w)
theorem jJ3 {D : Nat → Nat} {sts : List St} {p : Nat} (h : a ∈ shA D sts p) : ∃ b ∈ stA sts p, a = shf (D p) b := by
 unfold shA at h
 split at h
 ·cases h
 obtain ⟨b, hb, rfl⟩ := List.mem_map.1 h; exact ⟨b, (List.mem_filter.1 hb).1, rfl⟩
theorem qZ2 {D : Nat → Nat} {sts : List St} {a : Ar} : ∀ {k : Nat}, a ∈ yY D sts k → ∃ p b, p < k ∧ b ∈ stA sts p ∧ a = shf (D p) b
 | 0, h => by cases h
 | k + 1, h => by
  rcases List.mem_append.1 h with h | h
  ·obtain ⟨p, b, h1, h2⟩ := qZ2 h
   exact ⟨p, b, by omega, h2⟩
  grind [jJ3]
theorem j86 (h : i < sts.length) : (emL sts)[i]? = some ⟨qh8 (emF sts i), emA sts i⟩ := w8 h
theorem jm6 (h : emV sts n = false) (hi : i < n) : emO sts i = false := by grind [emV, List.any_eq_false]
theorem jx9 {st : Int} (h0 : zn ⟨st, sts⟩ = 0) (wy : P.length = sts.length) (hP : ∀ (i : Nat) (x : St), P[i]? = some x → x.fin = ul (emF sts i) ∧ x.arcs.Perm (emA sts i)) (hO : emV sts sts.length = false) :
  (zn ⟨st, P⟩ = if 400 < xp (emL sts) then 1 else 0) ∧ (zn ⟨st, P⟩ = 0 → y8 inO ⟨st, P⟩ = ⟨st, emL sts⟩) := by
 obtain ⟨z1, z2, z3, z4⟩ := xj h0; simp only at z1 z2 z3 z4
 have zI : xp P = xp (emL sts) := by
  unfold xp
  congr 1
  refine ext_getElem? fun i => ?_
  by_cases hi : i < sts.length
  ·obtain ⟨x, hx⟩ := zl wy hi
   rw [List.getElem?_map, List.getElem?_map, hx, j86 hi]; simp [(hP i x hx).2.length_eq]
  grind [List.getElem?_eq_none, emL, bl]
 have ur : ∀ i, i < sts.length → ul (emF sts i) = qh8 (emF sts i) ∧ vy (ul (emF sts i)) = true := fun i hi => by
  have ho := jm6 hO hi; unfold emO at ho; simp only [Bool.or_eq_false_iff, decide_eq_false_iff_not] at ho; have ho1 := ho.1; generalize emF sts i = F at ho1; unfold ul qh8 vy
  by_cases hb : F = big
  ·simp [hb]
  grind
 have jx3 : ∀ i, i < sts.length → ∀ a ∈ emA sts i, xl sts.length a = true := fun i hi a ha => by
  have ho := jm6 hO hi; unfold emO at ho; simp only [Bool.or_eq_false_iff, List.any_eq_false, decide_eq_true_eq] at ho; have hw := ho.2 a ha; obtain ⟨p, b, h1, h2, rfl⟩ := qZ2 ((j69 _ _).1 ha).1; have hx : sts[p]? = some sts[p] := List.getElem?_eq_getElem h1; rw [wo hx] at h2; have h3 := (z4 _ (mem_of_getElem? hx)).2 b h2; simp only [xl, decide_eq_true_eq] at h3; refine qf3 ?_
  simp only [shf] at hw ⊢; omega
 have xE : P.all (uK P.length) = true := by grind [all_eq_true, List.getElem?_of_mem, List.getElem?_eq_some_iff, qf4]
 have hmE : zn ⟨st, P⟩ = if 400 < xp (emL sts) then 1 else 0 := by
  unfold zn; simp only [zI]
  by_cases h4 : 400 < xp (emL sts)
  ·rw [if_pos (.inr h4), if_pos h4]
  rw [if_neg zg, if_neg h4, if_pos ⟨⟨z3.1, by simp only [wy]; exact z3.2⟩, xE⟩]
 refine ⟨hmE, fun h => ?_⟩; unfold y8; rw [if_pos h]; simp only [zr.mk.injEq, true_and]; refine ext_getElem? fun i => ?_
 by_cases hi : i < sts.length
 ·obtain ⟨x, hx⟩ := zl wy hi
  obtain ⟨h1, h2⟩ := hP i x hx; rw [List.getElem?_map, hx, j86 hi]; simp only [map_some, h1, (ur i hi).1]; have := j27 h2; rw [this]; rfl
 grind [List.getElem?_eq_none, emL, bl]
theorem jf6 (m : zr) : Fn prog 52 [mV m] (fun v => qQ1 (emE m) (emR m) v) := by
 by_cases h0 : zn m = 0
 ·have hz := xj h0
  have gI := yz; obtain ⟨e, he⟩ : ∃ e, emE m = e := ⟨_, rfl⟩; obtain ⟨R, hR⟩ : ∃ R, emR m = R := ⟨_, rfl⟩
  have hE : e = if emV m.states m.states.length = true then 4 else if 400 < xp (emL m.states) then 5 else 0 := by rw [← he]; unfold emE; rw [if_neg (by simp [h0])]
  have hRR : e = 0 → R = ⟨m.start, emL m.states⟩ := fun h => by rw [← hR]; unfold emR; rw [if_pos (he.trans h)]
  rw [he, hR]; clear he hR; obtain ⟨st, sts⟩ := m
  have yS := fun P => jx9 (P := P) h0
  simp only at hz hE hRR; obtain ⟨n, hn⟩ : ∃ n, sts.length = n := ⟨_, rfl⟩; obtain ⟨hz1, hz2, hz3, hz4⟩ := hz
  have qN8 : ∀ q, q < n → _ := fun q hq => jH9 ⟨st, sts⟩ q h0 (by simpa [hn] using hq)
  simp only at qN8; rw [hn] at hz1 hz3 hz4 hE yS qN8; refine qc 175 fun w0 out => ?_; refine W64 ?_; refine qa (Fn.eqi (we ⟨st, sts⟩) h0) ?_; refine qk6 ?_; refine qe8 ?_; refine q9 rfl (zp (l := [.i 0, .nil]) 5 xN rfl rfl rfl rfl) ?_; refine W31 ?_; refine qq 5 1 901 2 35 rfl rfl rfl zT4 ?_; refine xu ?_
  refine qb (fun s' => ∃ (q : Nat) (P : List St) (O : Bool), q ≤ n ∧ P.length = q ∧ (∀ (i : Nat) (x : St), P[i]? = some x → x.fin = ul (emF sts i) ∧ x.arcs.Perm (emA sts i)) ∧ O = emV sts q ∧ s' = ⟨175, [(1, .ref 1 0), (2, .ref 2 0), (5, .ref 5 0), (6, .b O), (31, .i n), (32, .i q)], [(1, ⟨24, [.i st, .d (zq sts)], false, 0⟩), (2, ⟨24, [.i 0, .nil], false, 0⟩), (5, ⟨24, [.i st, .own 901 2 q (decide (q = 0))], false, 0⟩), (901, ⟨35, P.flatMap xT, decide (q = 0), 2⟩)], []⟩) (fun s' => n - s'.nat 32) ⟨_, ?_, 0, [], false, by omega, rfl, zx, rfl, rfl⟩ ?_
  ·exact q8
  rintro s' ⟨q, P, O, hq, wy, hP, hO, rfl⟩
  have qZ3 : (P.flatMap xT).length = q * 2 := by rw [vh (sz := 2) (fun _ => rfl), wy]
  by_cases zk : q < n
  ·have hnr := qN8 q zk
   obtain ⟨dF, hD⟩ : ∃ dF, hop sts q = dF := ⟨_, rfl⟩; obtain ⟨C, hC⟩ : ∃ C, (bl (hop sts q) n).map ut = C := ⟨_, rfl⟩; have hCl : C.length = n := by rw [← hC, length_map, w4]
   have hCg : ∀ p, p < n → C[p]? = some (ut (dF p)) := fun p hp => by rw [← hC, ← hD]; exact qu6 (w8 hp)
   have jf7 : ∀ p, dF p ≤ big := fun p => by rw [← hD]; exact (bP p).1
   rw [hC, hD] at hnr; have hF0 : emF sts q = wv dF sts n := by unfold emF; rw [hD, hn]
   have hA0 : emA sts q = inL (yY dF sts n) := by unfold emA; rw [hD, hn]
   have hO0 := qW4 sts q; unfold emO at hO0; rw [hF0, hA0, ← hO] at hO0; clear qN8 yS hD hC hE hRR; refine xS ?_; refine q9 rfl (q48 35 rfl zT0 rfl) ?_; refine jp5 ?_; refine jb5 ?_; refine q34 ?_; refine qq 9 1 902 4 47 rfl rfl rfl (by simp [S.clean, V.has, V.hasL, V.cs, xg, zE]) ?_; refine xd ?_
   refine qh (post := ?pc237) rfl (zS (args := [_, _]) ?hc237 ⟨func92, rfl, rfl, rfl, rfl⟩ rfl rfl rfl rfl) ?_
   case hc237 => exact hnr
   rintro _ ⟨rfl, hbd⟩ -; refine W25 ?_
   refine qb (fun s' => ∃ (p : Nat) (M : List (K3 × Int)) (F : Nat), p ≤ n ∧ F = wv dF sts p ∧ M = gO (yY dF sts p) ∧ s' = ⟨175, [(1, .ref 1 0), (2, .ref 2 0), (5, .ref 5 0), (6, .b O), (7, .i q), (8, .mp 35 w0.heap.size (zu ye M)), (9, .ref 9 0), (31, .i n), (32, .i q), (39, .d (ua C)), (40, .i n), (41, .i p)], [(1, ⟨24, [.i st, .d (zq sts)], false, 0⟩), (2, ⟨24, [.i 0, .nil], false, 0⟩), (5, ⟨24, [.i st, .own 901 2 q (decide (q = 0))], false, 0⟩), (901, ⟨35, P.flatMap xT, decide (q = 0), 2⟩), (9, ⟨35, [.i (ul F), .own 902 4 0 true], false, 0⟩), (902, ⟨47, [], true, 4⟩)], []⟩) (fun s' => n - s'.nat 41) ⟨_, ?_, 0, [], big, by omega, rfl, rfl, rfl⟩ ?_
   ·rw [(qv4 (le_refl _)).2 rfl]
    exact q8
   rintro s' ⟨p, M, F, hp, hF, hM, rfl⟩
   by_cases qG3 : p < n
   ·obtain ⟨x, hx⟩ := zl hn qG3
    have hCp := hCg p qG3
    by_cases hd : dF p = big
    ·rw [hd, qu5] at hCp
     have hF' := qK2 (D := dF) hx hd; have hM' := qL6 (sts := sts) hd
     iterate 26 refine Dv ?_
     refine ⟨_, ?_, ⟨p + 1, M, F, by omega, by rw [hF', hF], by rw [hM', hM], rfl⟩, ?_⟩
     ·exact q8
     exact zM
    have hdl := jf7 p; have hx4 := hz4 x (mem_of_getElem? hx); have hxl := qp9 (mem_of_getElem? hx); obtain ⟨xf, xa⟩ := x; simp only [vy, decide_eq_true_eq] at hx4; obtain ⟨⟨hf0, hf1⟩, hxa⟩ := hx4; obtain ⟨f, rfl⟩ := Int.eq_ofNat_of_zero_le hf0; have hbp := hbd p qG3; obtain ⟨d, hdd⟩ : ∃ d, dF p = d := ⟨_, rfl⟩
    have hdf : dF p + f < big := by
     have := hbp zg; omega
    have qo8 := jm4 (D := dF) hx hd rfl; have qA2 := jm5 (D := dF) hx rfl hdf
    have qi6 := fun h => qW1 (D := dF) hx h
    have xE := qL7 (D := dF) hx hd; simp only at hxl hxa qi6 xE; rw [hdd] at hCp hd hdl hbp hdf qo8 qA2 xE; rw [q03 zg] at hCp; have kc2 := hbp zg; obtain ⟨la, xr⟩ : ∃ la, xa.length = la := ⟨_, rfl⟩; obtain ⟨F', hF'⟩ : ∃ F', wv dF sts (p + 1) = F' := ⟨_, rfl⟩; rw [hF', ← hF] at qo8 qA2 qi6; obtain ⟨E, hE⟩ : ∃ E, ul F = E := ⟨_, rfl⟩; rw [hE] at qo8 qA2 ⊢
    iterate 22 refine Dv ?_
    refine qn (fun s' => s' = ⟨175, [(1, .ref 1 0), (2, .ref 2 0), (5, .ref 5 0), (6, .b O), (7, .i q), (8, .mp 35 w0.heap.size (zu ye M)), (9, .ref 9 0), (10, .i p), (11, .i d), (31, .i n), (32, .i q), (39, .d (ua C)), (40, .i n), (41, .i p)], [(1, ⟨24, [.i st, .d (zq sts)], false, 0⟩), (2, ⟨24, [.i 0, .nil], false, 0⟩), (5, ⟨24, [.i st, .own 901 2 q (decide (q = 0))], false, 0⟩), (901, ⟨35, P.flatMap xT, decide (q = 0), 2⟩), (9, ⟨35, [.i (ul F'), .own 902 4 0 true], false, 0⟩), (902, ⟨47, [], true, 4⟩)], []⟩) ?_ ?_
    ·skip
     by_cases hfi : f = 1000000001
     ·have hFF : F' = F := qi6 zg
      rw [hFF, hE]; have k82 : (f : Int) = 1000000001 := by omega
      refine uy ?_; refine W15 ?_; refine W15 ?_; refine W15 ?_; refine zC ?_; refine ⟨_, ?_, rfl⟩; exact q8
     have k82 : ¬ (f : Int) = 1000000001 := by omega
     by_cases hE1 : E = 1000000001 ∨ ((d + f : Nat) : Int) < E
     ·have xR := qo8 hfi hdf hE1
      by_cases hs : d + f = 1000000001
      ·rw [if_pos hs] at xR
       rw [xR]; have hs' : (d : Int) + (f : Int) = 1000000001 := by omega
       by_cases hE2 : E = 1000000001
       ·skip
        iterate 32 refine Dv ?_
        refine W79 ?_; refine W72 ?_; rw [hs']; refine ⟨_, ?_, rfl⟩; exact q8
       have hE3 : (d : Int) + (f : Int) < E := by grind
       iterate 32 refine Dv ?_
       refine W79 ?_; refine W72 ?_; rw [hs']; refine ⟨_, ?_, rfl⟩; exact q8
      rw [if_neg hs, Int.natCast_add] at xR; rw [xR]; have hs' : ¬ (d : Int) + (f : Int) = 1000000001 := by omega
      by_cases hE2 : E = 1000000001
      ·skip
       iterate 32 refine Dv ?_
       refine q32 ?_; refine xB ?_; refine ⟨_, ?_, rfl⟩; exact q8
      have hE3 : (d : Int) + (f : Int) < E := by grind
      iterate 32 refine Dv ?_
      refine q32 ?_; refine xB ?_; refine ⟨_, ?_, rfl⟩; exact q8
     have hE2 : ¬ E = 1000000001 := fun h => hE1 (.inl h)
     have hE3 : ¬ (d : Int) + (f : Int) < E := fun h => hE1 (.inr zg)
     have hFF : F' = F := qA2 hE2 (fun h => hE1 (.inr h))
     rw [hFF, hE]; refine bK ?_; refine ⟨_, ?_, rfl⟩; exact q8
    rintro s' rfl; clear qo8 qA2 qi6 hE hF; refine xu ?_
    refine qb (fun s' => ∃ (j : Nat) (M : List (K3 × Int)), j ≤ la ∧ M = gO (yY dF sts p ++ shL d (xa.take j)) ∧ s' = ⟨175, [(1, .ref 1 0), (2, .ref 2 0), (5, .ref 5 0), (6, .b O), (7, .i q), (8, .mp 35 w0.heap.size (zu ye M)), (9, .ref 9 0), (10, .i p), (11, .i d), (31, .i n), (32, .i q), (39, .d (ua C)), (40, .i n), (41, .i p), (85, .d (zU xa)), (86, .i la), (87, .i j)], [(1, ⟨24, [.i st, .d (zq sts)], false, 0⟩), (2, ⟨24, [.i 0, .nil], false, 0⟩), (5, ⟨24, [.i st, .own 901 2 q (decide (q = 0))], false, 0⟩), (901, ⟨35, P.flatMap xT, decide (q = 0), 2⟩), (9, ⟨35, [.i (ul F'), .own 902 4 0 true], false, 0⟩), (902, ⟨47, [], true, 4⟩)], []⟩) (fun s' => la - s'.nat 87) ⟨_, ?_, 0, M, by omega, by rw [hM]; simp [shL], rfl⟩ ?_
    ·exact q8
    clear hM; rintro s' ⟨j, M, hj, hM, rfl⟩
    by_cases qV5 : j < la
    ·obtain ⟨a, ha⟩ := zl xr qV5
     have ham := hxa a (mem_of_getElem? ha); simp only [xl, decide_eq_true_eq] at ham; obtain ⟨e, he⟩ : ∃ e, emp a = e := ⟨_, rfl⟩; have hem := qW9 a e he
     have wb := fun h => qZ0 (d := d) ha (he.trans h)
     have qi7 := fun h => qZ1 (d := d) ha (he.trans h)
     have qo1 := fun h => (congrArg (fun l => gO (yY dF sts p ++ l)) (qi7 h)).trans (by rw [← append_assoc, qK3, ← hM])
     obtain ⟨ai, ao, aw, at'⟩ := a; simp only [shf] at qo1 ham; clear qi7 he
     cases hg : zK M (ai, ao, at') with
     | none =>
      cases e with
      | true =>
       have hs := wb rfl; clear wb qo1; refine W65 ?_; refine xX ?_; refine W26 ?_; refine zC ?_; refine AL.rd rfl rfl (qc7 (gP) underlying132 zz rfl (.inl rfl) (fun g a w hs => q04 (hs.ev rfl)) zm) ?_; refine xB ?_; refine qa hem ?_; refine qs3 ?_; refine W15 ?_; refine W15 ?_; refine W15 ?_; refine xX ?_; refine ⟨_, ?_, ⟨j + 1, M, by omega, by rw [hs, hM], rfl⟩, ?_⟩
       ·exact q8
       exact zM
      | false =>
       have hs := qo1 rfl; have hl : q10 M ⟨ai, ao, (d : Int) + aw, at'⟩ = true := by simp only [q10, ky, hg]
       simp only [qF3, if_pos hl, ky] at hs; clear wb qo1 hl; refine W65 ?_; refine xX ?_; refine W26 ?_; refine zC ?_; refine AL.rd rfl rfl (qc7 (gP) underlying132 zz rfl (.inl rfl) (fun g a w hs => q04 (hs.ev rfl)) zm) ?_; refine xB ?_; refine qa hem ?_; refine zQ ?_
       iterate 22 refine Dv ?_
       refine qf rfl (qm6 (gP) underlying132 rfl rfl (by rfl) (fun g a w hs => q04 (hs.ev rfl)) rfl rfl (by simp [S.put, S.newObj, xg, V.cs, V.mpsL, V.mps, D.mps, D.mpsL, D.mpsR, vM, vZ, V.one, yJ, yI, bj, q21, q22, yG, yH]) rfl) ?_; simp only [S.put, map_cons, map_nil, qx9, qc8, qc9, qm8, q70, qd0, qm7,  vM, vZ, yJ, yI, bj, q21, q22, yG, yH]; refine zC ?_
       refine ⟨_, ?_, ⟨j + 1, _, by omega, hs.symm, rfl⟩, ?_⟩
       ·exact q8
       exact zM
     | some v =>
      cases e with
      | true =>
       have hs := wb rfl; clear wb qo1; refine W65 ?_; refine xX ?_; refine W26 ?_; refine zC ?_; refine AL.rd rfl rfl (q37 (gP) underlying132 zz rfl (.inl rfl) (fun g a w hs => q04 (hs.ev rfl)) zm) ?_; refine xB ?_; refine qa hem ?_; refine qs3 ?_; refine W15 ?_; refine W15 ?_; refine W15 ?_; refine xX ?_; refine ⟨_, ?_, ⟨j + 1, M, by omega, by rw [hs, hM], rfl⟩, ?_⟩
       ·exact q8
       exact zM
      | false =>
       have hs := qo1 rfl
       by_cases hv : (d : Int) + aw < v
       ·have hl : q10 M ⟨ai, ao, (d : Int) + aw, at'⟩ = true := by simp only [q10, ky, hg]; exact decide_eq_true hv
        simp only [qF3, if_pos hl, ky] at hs; clear wb qo1 hl; refine W65 ?_; refine xX ?_; refine W26 ?_; refine zC ?_; refine AL.rd rfl rfl (q37 (gP) underlying132 zz rfl (.inl rfl) (fun g a w hs => q04 (hs.ev rfl)) zm) ?_; refine xB ?_; refine qa hem ?_; refine zQ ?_
        iterate 22 refine Dv ?_
        refine qf rfl (qm6 (gP) underlying132 rfl rfl (by rfl) (fun g a w hs => q04 (hs.ev rfl)) rfl rfl (by simp [S.put, S.newObj, xg, V.cs, V.mpsL, V.mps, D.mps, D.mpsL, D.mpsR, vM, vZ, V.one, yJ, yI, bj, q21, q22, yG, yH]) rfl) ?_; simp only [S.put, map_cons, map_nil, qx9, qc8, qc9, qm8, q70, qd0, qm7,  vM, vZ, yJ, yI, bj, q21, q22, yG, yH]; refine zC ?_
        refine ⟨_, ?_, ⟨j + 1, _, by omega, hs.symm, rfl⟩, ?_⟩
        ·exact q8
        exact zM
       have hl : ¬ q10 M ⟨ai, ao, (d : Int) + aw, at'⟩ = true := by simp only [q10, ky, hg, decide_eq_true_eq]; exact hv
       simp only [qF3, if_neg hl] at hs; clear wb qo1 hl; refine W65 ?_; refine xX ?_; refine W26 ?_; refine zC ?_; refine AL.rd rfl rfl (q37 (gP) underlying132 zz rfl (.inl rfl) (fun g a w hs => q04 (hs.ev rfl)) zm) ?_; refine xB ?_; refine qa hem ?_; refine zQ ?_
       iterate 20 refine Dv ?_
       refine ⟨_, ?_, ⟨j + 1, M, by omega, hs.symm, rfl⟩, ?_⟩
       ·exact q8
       exact zM
    rw [take_of_length_le zg, ← xE] at hM; refine ve ?_; refine ⟨_, ?_, ⟨p + 1, M, F', by omega, hF'.symm, hM, rfl⟩, ?_⟩
    ·exact q8
    exact zM
   obtain rfl : p = n := by omega
   obtain ⟨E, hE⟩ : ∃ E, ul F = E := ⟨_, rfl⟩; have hMp := jl3 (yY dF sts p); rw [← hM, ← hA0] at hMp
   have hMl : M.length ≤ 400 := by
    have h1 := hMp.length_eq; have h2 := qF4 (yY dF sts p); have h3 := qh9 (D := dF) (sts := sts) (k := p) zg hz2; rw [length_map, hA0] at h1; omega
   have hO1 : decide (emF sts q ≠ big ∧ 1000000000 < emF sts q) = decide (1000000001 < E) := by grind [ul, big]
   rw [hF0] at hO1; rw [hO1, ← hA0] at hO0; rw [hE]; have ur : E = ul (emF sts q) := by rw [← hE, hF0, ← hF]
   clear hO1 hA0 hF0 hE hF hM hbd jf7 hCg; refine zY ?_
   refine qn (fun s' => ∃ B : Bool, B = (O || decide (1000000001 < E)) ∧ s' = ⟨175, [(1, .ref 1 0), (2, .ref 2 0), (5, .ref 5 0), (6, .b B), (8, .mp 35 w0.heap.size (zu ye M)), (9, .ref 9 0), (31, .i p), (32, .i q)], [(1, ⟨24, [.i st, .d (zq sts)], false, 0⟩), (2, ⟨24, [.i 0, .nil], false, 0⟩), (5, ⟨24, [.i st, .own 901 2 q (decide (q = 0))], false, 0⟩), (901, ⟨35, P.flatMap xT, decide (q = 0), 2⟩), (9, ⟨35, [.i E, .own 902 4 0 true], false, 0⟩), (902, ⟨47, [], true, 4⟩)], []⟩) ?_ ?_
   ·skip
    cases O with
    | true =>
     refine xX ?_; refine ⟨_, ?_, true, by simp, rfl⟩; exact q8
    | false =>
     by_cases hE1 : 1000000001 < E
     ·skip
      refine xX ?_; refine ⟨_, ?_, true, by simp [hE1], rfl⟩; exact q8
     skip; refine xX ?_; refine ⟨_, ?_, false, by simp [hE1], rfl⟩; exact q8
   rintro s' ⟨B1, hB1, rfl⟩; rw [← Bool.or_assoc, ← hB1] at hO0; refine xd ?_; refine q9 rfl (jj1 134 underlying132 rfl rfl zT0 rfl) ?_; refine zR ?_
   refine qF (fun μ s' => ∃ (seen : List Nat) (A : List Ar) (la : Nat) (B : Bool), μ + la = M.length ∧ seen.length = la ∧ seen.Nodup ∧ (∀ j ∈ seen, j < M.length) ∧ A = (seen.map fun j => toA (M.getD j ((0, 0, 0), 0))) ∧ A.length = la ∧ B = (B1 || A.any ovA) ∧ s' = ⟨175, [(1, .ref 1 0), (2, .ref 2 0), (5, .ref 5 0), (6, .b B), (9, .ref 9 0), (31, .i p), (32, .i q), (134, .mit 134 35 w0.heap.size (zu ye M) seen)], [(1, ⟨24, [.i st, .d (zq sts)], false, 0⟩), (2, ⟨24, [.i 0, .nil], false, 0⟩), (5, ⟨24, [.i st, .own 901 2 q (decide (q = 0))], false, 0⟩), (901, ⟨35, P.flatMap xT, decide (q = 0), 2⟩), (9, ⟨35, [.i E, .own 902 4 la (decide (la = 0))], false, 0⟩), (902, ⟨47, A.flatMap vG, decide (la = 0), 4⟩)], []⟩) ⟨M.length, _, ?_, [], [], 0, B1, rfl, rfl, List.nodup_nil, zx, rfl, rfl, zx, rfl⟩ ?_
   ·exact q8
   rintro μ s' ⟨seen, A, la, B, hμ, hsl, wC, hsj, hA, w5, hB, rfl⟩
   have xA : (A.flatMap vG).length = la * 4 := by rw [vh (sz := 4) (fun _ => rfl), w5]
   by_cases xE : ∀ j, j < (zu ye M).length → j ∈ seen
   ·have hAp : A.Perm (emA sts q) := by
     rw [hA]
     exact (qf6 toA _ M wC hsj fun j hj => xE j (by simpa [zu] using hj)).trans hMp
    have hBO : B = emV sts (q + 1) := by rw [hO0, hB, jx8 hAp]
    have q39 : la ≤ 400 := by omega
    refine jc4 ?_; refine zC ?_; refine qs 9 1 32 (A.map arD) rfl rfl rfl zj rfl rfl (by rw [length_map, w5]) zg (vx (enc := arD) (sz := 4) (l := A) (fun _ => rfl) rfl) ?_; refine zW ?_; refine q9 rfl (zN (vs := [(0, _)]) (zs := [.i 0, .nil]) 161 underlying22 xD rfl rfl zj zj zj rfl rfl rfl rfl zT0 rfl rfl) ?_; refine W2 ?_; refine W39 ?_; refine zC ?_
    refine ⟨_, ?_, ⟨q + 1, P ++ [⟨E, A⟩], B, by omega, by simp [wy], fun i x hi => ?_, hBO, rfl⟩, ?_⟩
    ·simp only [flatMap_append, flatMap_cons, flatMap_nil, append_nil]
     exact q8
    ·grind [List.getElem?_append_left, List.getElem?_append_right, List.getElem?_cons_zero, Option.some.injEq]
    exact zM
   skip; apply qr
   (refine j6 rfl rfl rfl rfl (by (simp [S.put, S.newObj, xg, V.cs, V.itsL, V.its, yJ, yI, bj, q21, q22, yG, yH]; done)) rfl rfl rfl zm (fun j kv hj hns => ?_); simp only [S.put, map_cons, map_nil, qy1, qg5, qg6, qp6, q87, qg7, q86])
   refine W75 ?_; obtain ⟨⟨⟨k1, k2, k3⟩, v⟩, hMj, rfl⟩ : ∃ y, M[j]? = some y ∧ (ye y.1, Value.int .i64 y.2) = kv := by grind [zu, Option.some.inj]
   have hjM : j < M.length := (List.getElem?_eq_some_iff.1 hMj).1; have um : (seen ++ [j]).Nodup := by grind
   have gQ : ∀ i ∈ seen ++ [j], i < M.length := fun i hi => by grind
   have qi8 := ql6 um gQ; simp only [length_append, length_cons, length_nil, hsl] at qi8; have hA2 : A ++ [⟨k1, k2, v, k3⟩] = (seen ++ [j]).map fun j => toA (M.getD j ((0, 0, 0), 0)) := by grind [toA]
   have q39 : la < 400 := by omega
   have jy0 : (B1 || (A ++ [(⟨k1, k2, v, k3⟩ : Ar)]).any ovA) = (B || decide (1000000000 < v)) := by grind
   clear xE hB
   cases B with
   | true =>
    refine Dv ?_; refine AL.rd rfl rfl (uw (vk := .agg [.i k1, .i k2, .i k3]) (vv := .i v) rfl rfl hj (fun _ _ _ => qY9 (k1, k2, k3)) (fun _ _ _ => .d _ _ (.p _))) ?_; refine jp9 ?_; refine zY ?_; refine qe rfl rfl (uc (k := _) underlying134 zz rfl rfl rfl rfl yp zj) ?_; refine Dv ?_; refine qe rfl rfl (uc (k := _) underlying134 zz rfl rfl rfl rfl yp zj) ?_; refine Dv ?_
    refine qe rfl rfl (uc (k := _) underlying134 zz rfl rfl rfl rfl yp zj) ?_; refine zR ?_; refine W49 ?_; refine W0 ?_; refine W34 ?_; refine xX ?_; refine ⟨μ - 1, _, ?_, ⟨seen ++ [j], A ++ [⟨k1, k2, v, k3⟩], la + 1, true, by omega, by simp [hsl], um, gQ, hA2, by simp [w5], by rw [jy0]; simp, rfl⟩, by omega⟩; simp only [flatMap_append, flatMap_cons, flatMap_nil, append_nil]; exact q8
   | false =>
    by_cases hv : 1000000000 < v
    ·skip
     refine Dv ?_; refine AL.rd rfl rfl (uw (vk := .agg [.i k1, .i k2, .i k3]) (vv := .i v) rfl rfl hj (fun _ _ _ => qY9 (k1, k2, k3)) (fun _ _ _ => .d _ _ (.p _))) ?_; refine jp9 ?_; refine zY ?_; refine qe rfl rfl (uc (k := _) underlying134 zz rfl rfl rfl rfl yp zj) ?_; refine Dv ?_; refine qe rfl rfl (uc (k := _) underlying134 zz rfl rfl rfl rfl yp zj) ?_; refine Dv ?_
     refine qe rfl rfl (uc (k := _) underlying134 zz rfl rfl rfl rfl yp zj) ?_; refine zR ?_; refine W49 ?_; refine W0 ?_; refine W34 ?_; refine xX ?_; refine ⟨μ - 1, _, ?_, ⟨seen ++ [j], A ++ [⟨k1, k2, v, k3⟩], la + 1, true, by omega, by simp [hsl], um, gQ, hA2, by simp [w5], by rw [jy0]; simp [hv], rfl⟩, by omega⟩; simp only [flatMap_append, flatMap_cons, flatMap_nil, append_nil]; exact q8
    skip; refine Dv ?_; refine AL.rd rfl rfl (uw (vk := .agg [.i k1, .i k2, .i k3]) (vv := .i v) rfl rfl hj (fun _ _ _ => qY9 (k1, k2, k3)) (fun _ _ _ => .d _ _ (.p _))) ?_; refine jp9 ?_; refine zY ?_; refine qe rfl rfl (uc (k := _) underlying134 zz rfl rfl rfl rfl yp zj) ?_; refine Dv ?_; refine qe rfl rfl (uc (k := _) underlying134 zz rfl rfl rfl rfl yp zj) ?_; refine Dv ?_
    refine qe rfl rfl (uc (k := _) underlying134 zz rfl rfl rfl rfl yp zj) ?_; refine zR ?_; refine W49 ?_; refine W0 ?_; refine W34 ?_; refine xX ?_; refine ⟨μ - 1, _, ?_, ⟨seen ++ [j], A ++ [⟨k1, k2, v, k3⟩], la + 1, false, by omega, by simp [hsl], um, gQ, hA2, by simp [w5], by rw [jy0]; simp [hv], rfl⟩, by omega⟩; simp only [flatMap_append, flatMap_cons, flatMap_nil, append_nil]; exact q8
  obtain rfl : q = n := by omega
  rw [← hO] at hE; have hd0 := yS P wy hP; obtain ⟨X, hX⟩ : ∃ X, emL sts = X := ⟨_, rfl⟩; rw [hX] at hE hRR hd0
  cases O with
  | true =>
   rw [if_pos rfl] at hE; refine wn ?_; refine W11 ?_; exact ⟨[_, _], zU1, .inl ⟨by rw [hE]; decide, by rw [hE]; rfl⟩, zU0⟩
  | false =>
   rw [if_neg zx] at hE; obtain ⟨hm1, hm2⟩ := hd0 hO.symm; refine wn ?_; refine q63 ?_; refine qs 5 1 32 (P.map stD) rfl rfl rfl zj rfl rfl (by rw [length_map, wy]) zg (vx (enc := stD) (sz := 2) (l := P) (fun _ => rfl) rfl) ?_
   by_cases h4 : 400 < xp X
   ·rw [if_pos h4] at hm1 hE
    refine zR ?_; refine qa (Fn.eqi (we ⟨st, P⟩) hm1) ?_; refine W25 ?_; refine W11 ?_; exact ⟨[_, _], zU1, .inl ⟨by rw [hE]; decide, by rw [hE]; rfl⟩, zU0⟩
   rw [if_neg h4] at hm1 hE; have hm3 := hm2 hm1; refine zR ?_; refine qa (Fn.eqi (we ⟨st, P⟩) hm1) ?_; refine qs4 ?_; refine qa (Fn.eqv (qK8 ⟨st, P⟩) (by rw [hm3, hm1])) ?_; refine qs4 ?_; exact ⟨[_, _], zU1, .inr ⟨hE, by rw [hRR hE]; rfl⟩, zU0⟩
 obtain ⟨e, he⟩ : ∃ e, zn m = e := ⟨_, rfl⟩; have hE : emE m = e := by unfold emE; rw [if_pos h0, he]
 rw [hE]; rw [he] at h0; obtain ⟨⟨st, sts⟩, rfl⟩ : ∃ m', m' = m := ⟨m, rfl⟩; refine qc 175 fun w0 out => ?_; refine W64 ?_; refine qa (Fn.eqi (we ⟨st, sts⟩) he) ?_; refine qC1 ?_; refine W14 ?_; exact ⟨[_, _], zU1, .inl ⟨h0, rfl⟩, zU0⟩
theorem jf8 (y : Ar) (b : Bool) (hb : fF y = b) : Fn prog 43 [.agg ((arD y).map V.d)] (fun v => v = .b (!b)) := by
 subst hb; obtain ⟨yi, yo, yw, yt⟩ := y; refine qc 11 fun w0 out => ?_
 by_cases h1 : yi = 0
 ·by_cases h2 : yo = 0
  ·skip
   refine q33 ?_; exact ⟨[_], ⟨rfl, trivial⟩, by simp [zZ, fF, h1, h2], zU2⟩
  skip; refine q33 ?_; exact ⟨[_], ⟨rfl, trivial⟩, by simp [zZ, fF, h1, h2], zU2⟩
 skip; refine q33 ?_; exact ⟨[_], ⟨rfl, trivial⟩, by simp [zZ, fF, h1], zU2⟩
theorem jy1 (h : l[i]? = some y) : uA l (i + 1) = (uA l i && (l.take i).all fun b => !(decide (y.i = b.i) && decide (y.o = b.o))) := by simp only [uA, bX h]
theorem jy2 (h : l[i]? = some y) : uN l (i + 1) = (uN l i && (l.take i).all fun b => !ahd y b) := by simp only [uN, bX h]
theorem jZ2 (a b c d e : Bool) : ((((a && b) && c) && d) && e) = ((a && (b && e)) && (c && d)) := by cases a <;> cases b <;> cases c <;> cases d <;> cases e <;> rfl
theorem j87 (m : zr) : Fn prog 19 [mV m] (fun v => v = .tup [prV m, .i (zn m)]) := by
 by_cases h0 : zn m = 0
 ·obtain ⟨xZ, vw, xR, hz⟩ := xj h0
  rw [qd6 h0, h0]; obtain ⟨st, sts⟩ := m; simp only at xZ vw xR hz ⊢
  have ui : ∀ x ∈ sts, x.arcs.length ≤ 400 := fun x hx => le_trans (yq sts x hx) vw
  have hw0 : ∀ x ∈ sts, ∀ y ∈ x.arcs, 0 ≤ y.w := fun x hx y hy => by grind [xl]
  obtain ⟨n, hn⟩ : ∃ n, sts.length = n := ⟨_, rfl⟩; rw [hn] at xZ; clear vw xR hz; refine qc 94 fun w0 out => ?_; refine W91 ?_; refine zW ?_; refine qa (Fn.eqi (wz ⟨st, sts⟩) h0) ?_; refine zQ ?_; refine ve ?_; refine W97 ?_; refine x8 ?_
  refine qb (fun s' => ∃ (q : Nat) (u1 u2 u3 d3 u4 u5 : Bool), q ≤ n ∧ u1 = ((sts.take q).all fun s => s.arcs.all fA) ∧ u2 = ((sts.take q).all fun s => s.arcs.all fF) ∧ d3 = ((sts.take q).all fun s => uA s.arcs s.arcs.length) ∧ u3 = (d3 && u2) ∧ u4 = ((sts.take q).all fun s => uN s.arcs s.arcs.length) ∧ u5 = ((sts.take q).all fun s => fP s.fin && s.arcs.all fW) ∧ s' = ⟨94, [(1, .ref 1 0), (2, .ref 2 0), (5, .ref 5 0), (6, .i q)], [(1, ⟨24, [.i st, .d (zq sts)], false, 0⟩), (2, ⟨37, [.b false, .b false, .b false, .b false, .b false], false, 0⟩), (5, ⟨37, [.b u1, .b u2, .b u3, .b u4, .b u5], false, 0⟩)], []⟩) (fun s' => n - s'.nat 6) ⟨_, ?_, 0, true, true, true, true, true, true, by omega, rfl, rfl, rfl, rfl, rfl, rfl, rfl⟩ ?_
  ·exact q8
  rintro s' ⟨q, u1, u2, u3, d3, u4, u5, hq, h1, h2, h3, h6, h4, h5, rfl⟩
  by_cases zk : q < n
  ·obtain ⟨x, hx⟩ := zl hn zk
   have q39 := ui x (mem_of_getElem? hx); have hw1 := hw0 x (mem_of_getElem? hx)
   have e1 := w7 (fun s : St => s.arcs.all fA) hx
   have e2 := w7 (fun s : St => s.arcs.all fF) hx
   have e3 := w7 (fun s : St => uA s.arcs s.arcs.length) hx
   have e4 := w7 (fun s : St => uN s.arcs s.arcs.length) hx
   have e5 := w7 (fun s : St => fP s.fin && s.arcs.all fW) hx
   rw [← h1] at e1; rw [← h2] at e2; rw [← h3] at e3; rw [← h4] at e4; rw [← h5] at e5; clear h1 h2 h3 h4 h5; obtain ⟨xf, xa⟩ := x; simp only at q39 e1 e2 e3 e4 e5 hw1; obtain ⟨la, xr⟩ : ∃ n, xa.length = n := ⟨_, rfl⟩; rw [xr] at q39 e3 e4; obtain ⟨v5, hv5⟩ : ∃ v, v = (u5 && fP xf) := ⟨_, rfl⟩; rw [← Bool.and_assoc, ← hv5] at e5; refine yB ?_
   refine q9 rfl (zp (l := [.i 0, .nil]) 7 xD rfl rfl rfl rfl) ?_; refine zR ?_
   refine qn (fun s' => s' = ⟨94, [(1, .ref 1 0), (2, .ref 2 0), (5, .ref 5 0), (6, .i q), (7, .ref 7 0)], [(1, ⟨24, [.i st, .d (zq sts)], false, 0⟩), (2, ⟨37, [.b false, .b false, .b false, .b false, .b false], false, 0⟩), (5, ⟨37, [.b u1, .b u2, .b u3, .b u4, .b v5], false, 0⟩), (7, ⟨35, [.i xf, .d (zU xa)], false, 0⟩)], []⟩) ?_ ?_
   ·skip
    by_cases f0 : xf = 0
    ·obtain rfl : v5 = u5 := by rw [hv5]; simp [fP, f0]
     refine wn ?_; refine ⟨_, ?_, rfl⟩; exact q8
    by_cases f1 : xf = 1000000001
    ·obtain rfl : v5 = u5 := by rw [hv5]; simp [fP, f1]
     refine wn ?_; refine ⟨_, ?_, rfl⟩; exact q8
    obtain rfl : v5 = false := by rw [hv5]; simp [fP, f0, f1]
    refine xS ?_; refine W17 ?_; refine ⟨_, ?_, rfl⟩; exact q8
   rintro s' rfl; clear hv5; refine zW ?_
   refine qb (fun s' => ∃ (i : Nat) (b1 b2 b3 b4 b5 : Bool), i ≤ la ∧ b1 = (u1 && (xa.take i).all fA) ∧ b2 = (u2 && (xa.take i).all fF) ∧ b3 = ((d3 && uA xa i) && b2) ∧ b4 = (u4 && uN xa i) ∧ b5 = (v5 && (xa.take i).all fW) ∧ s' = ⟨94, [(1, .ref 1 0), (2, .ref 2 0), (5, .ref 5 0), (6, .i q), (7, .ref 7 0), (8, .i i)], [(1, ⟨24, [.i st, .d (zq sts)], false, 0⟩), (2, ⟨37, [.b false, .b false, .b false, .b false, .b false], false, 0⟩), (5, ⟨37, [.b b1, .b b2, .b b3, .b b4, .b b5], false, 0⟩), (7, ⟨35, [.i xf, .d (zU xa)], false, 0⟩)], []⟩) (fun s' => la - s'.nat 8) ⟨_, ?_, 0, u1, u2, u3, u4, v5, by omega, by simp, by simp, by rw [h6]; simp [uA], by simp [uN], by simp, rfl⟩ ?_
   ·exact q8
   clear h6; rintro s' ⟨i, b1, b2, b3, b4, b5, hi, h1, h2, h3, h4, h5, rfl⟩
   by_cases vr : i < la
   ·obtain ⟨y, hy⟩ := zl xr vr
    have hyw := hw1 y (mem_of_getElem? hy); have a1 := w7 fA hy; have a2 := w7 fF hy; have a3 := jy1 hy; have a4 := jy2 hy; have a5 := w7 fW hy; have a1' : (u1 && (xa.take (i + 1)).all fA) = (b1 && fA y) := by rw [a1, h1, Bool.and_assoc]
    have a2' : (u2 && (xa.take (i + 1)).all fF) = (b2 && fF y) := by rw [a2, h2, Bool.and_assoc]
    have a5' : (v5 && (xa.take (i + 1)).all fW) = (b5 && fW y) := by rw [a5, h5, Bool.and_assoc]
    have a4' : (u4 && uN xa (i + 1)) = (b4 && (xa.take i).all fun b => !ahd y b) := by rw [a4, h4, Bool.and_assoc]
    have a3' : ((d3 && uA xa (i + 1)) && (b2 && fF y)) = ((b3 && fF y) && (xa.take i).all fun b => !(decide (y.i = b.i) && decide (y.o = b.o))) := by rw [a3, h3, ← jZ2]
    clear a1 a2 a3 a4 a5 h1 h2 h3 h4 h5; obtain ⟨ff, hff⟩ : ∃ v, fF y = v := ⟨_, rfl⟩; have hem := jf8 y ff hff
    have haR := fun z => qn9 y z
    rw [hff] at a2' a3'; clear hff; obtain ⟨c1, hc1⟩ : ∃ v, v = (b1 && fA y) := ⟨_, rfl⟩; obtain ⟨c2, hc2⟩ : ∃ v, v = (b2 && ff) := ⟨_, rfl⟩; obtain ⟨c3, hc3⟩ : ∃ v, v = (b3 && ff) := ⟨_, rfl⟩; obtain ⟨c5, hc5⟩ : ∃ v, v = (b5 && fW y) := ⟨_, rfl⟩; rw [← hc1] at a1'; rw [← hc2] at a2' a3'; rw [← hc3] at a3'; rw [← hc5] at a5'
    obtain ⟨G3, hG3⟩ : ∃ G : Ar → Bool, G = fun b => !(decide (y.i = b.i) && decide (y.o = b.o)) := ⟨_, rfl⟩
    obtain ⟨G4, hG4⟩ : ∃ G : Ar → Bool, G = fun b => !ahd y b := ⟨_, rfl⟩
    rw [← hG3] at a3'; rw [← hG4] at a4'; obtain ⟨yi, yo, yw, yt⟩ := y; simp only at hc1 hc5 hyw hG3; refine yB ?_; refine W55 ?_
    refine qn (fun s' => s' = ⟨94, [(1, .ref 1 0), (2, .ref 2 0), (5, .ref 5 0), (6, .i q), (7, .ref 7 0), (8, .i i), (9, .ref 9 0)], [(1, ⟨24, [.i st, .d (zq sts)], false, 0⟩), (2, ⟨37, [.b false, .b false, .b false, .b false, .b false], false, 0⟩), (5, ⟨37, [.b c1, .b b2, .b b3, .b b4, .b b5], false, 0⟩), (7, ⟨35, [.i xf, .d (zU xa)], false, 0⟩), (9, ⟨47, [.i yi, .i yo, .i yw, .i yt], false, 0⟩)], []⟩) ?_ ?_
    ·skip
     by_cases g1 : yi = yo
     ·obtain rfl : c1 = b1 := by rw [hc1]; simp [fA, g1]
      refine xX ?_; refine ⟨_, ?_, rfl⟩; exact q8
     obtain rfl : c1 = false := by rw [hc1]; simp [fA, g1]
     refine ve ?_; refine W17 ?_; refine ⟨_, ?_, rfl⟩; exact q8
    rintro s' rfl; clear hc1
    refine qn (fun s' => s' = ⟨94, [(1, .ref 1 0), (2, .ref 2 0), (5, .ref 5 0), (6, .i q), (7, .ref 7 0), (8, .i i), (9, .ref 9 0)], [(1, ⟨24, [.i st, .d (zq sts)], false, 0⟩), (2, ⟨37, [.b false, .b false, .b false, .b false, .b false], false, 0⟩), (5, ⟨37, [.b c1, .b c2, .b c3, .b b4, .b b5], false, 0⟩), (7, ⟨35, [.i xf, .d (zU xa)], false, 0⟩), (9, ⟨47, [.i yi, .i yo, .i yw, .i yt], false, 0⟩)], []⟩) ?_ ?_
    ·skip
     cases ff with
     | true =>
      obtain rfl : c2 = b2 := by rw [hc2]; simp
      obtain rfl : c3 = b3 := by rw [hc3]; simp
      refine zR ?_; refine qa hem ?_; refine W47 ?_; refine ⟨_, ?_, rfl⟩; exact q8
     | false =>
      obtain rfl : c2 = false := by rw [hc2]; simp
      obtain rfl : c3 = false := by rw [hc3]; simp
      refine zR ?_; refine qa hem ?_; refine W25 ?_; refine qB7 ?_; refine xd ?_; refine W17 ?_; refine ⟨_, ?_, rfl⟩; exact q8
    rintro s' rfl; clear hc2 hc3 hem
    refine qn (fun s' => s' = ⟨94, [(1, .ref 1 0), (2, .ref 2 0), (5, .ref 5 0), (6, .i q), (7, .ref 7 0), (8, .i i), (9, .ref 9 0)], [(1, ⟨24, [.i st, .d (zq sts)], false, 0⟩), (2, ⟨37, [.b false, .b false, .b false, .b false, .b false], false, 0⟩), (5, ⟨37, [.b c1, .b c2, .b c3, .b b4, .b c5], false, 0⟩), (7, ⟨35, [.i xf, .d (zU xa)], false, 0⟩), (9, ⟨47, [.i yi, .i yo, .i yw, .i yt], false, 0⟩)], []⟩) ?_ ?_
    ·skip
     by_cases g1 : yw = 0
     ·obtain rfl : c5 = b5 := by rw [hc5]; simp [fW, g1]
      refine x8 ?_; refine ⟨_, ?_, rfl⟩; exact q8
     obtain rfl : c5 = false := by rw [hc5]; simp [fW, g1]
     refine xB ?_; refine W17 ?_; refine ⟨_, ?_, rfl⟩; exact q8
    rintro s' rfl; clear hc5; refine zW ?_
    refine qb (fun s' => ∃ (j : Nat) (g3 g4 : Bool), j ≤ i ∧ g3 = (c3 && (xa.take j).all G3) ∧ g4 = (b4 && (xa.take j).all G4) ∧ s' = ⟨94, [(1, .ref 1 0), (2, .ref 2 0), (5, .ref 5 0), (6, .i q), (7, .ref 7 0), (8, .i i), (9, .ref 9 0), (10, .i j)], [(1, ⟨24, [.i st, .d (zq sts)], false, 0⟩), (2, ⟨37, [.b false, .b false, .b false, .b false, .b false], false, 0⟩), (5, ⟨37, [.b c1, .b c2, .b g3, .b g4, .b c5], false, 0⟩), (7, ⟨35, [.i xf, .d (zU xa)], false, 0⟩), (9, ⟨47, [.i yi, .i yo, .i yw, .i yt], false, 0⟩)], []⟩) (fun s' => i - s'.nat 10) ⟨_, ?_, 0, c3, b4, by omega, by simp, by simp, rfl⟩ ?_
    ·exact q8
    rintro s' ⟨j, g3, g4, hj, k3, k4, rfl⟩
    by_cases vJ : j < i
    ·obtain ⟨z, hz⟩ := zl xr (show j < la by omega)
     have a3 := w7 G3 hz; have a4 := w7 G4 hz; have b3 : (c3 && (xa.take (j + 1)).all G3) = (g3 && G3 z) := by rw [a3, k3, Bool.and_assoc]
     have b4' : (b4 && (xa.take (j + 1)).all G4) = (g4 && G4 z) := by rw [a4, k4, Bool.and_assoc]
     clear a3 a4 k3 k4; obtain ⟨ah, hah⟩ : ∃ v, ahd ⟨yi, yo, yw, yt⟩ z = v := ⟨_, rfl⟩; have vN := haR z ah hah; have jT9 : G4 z = !ah := by rw [hG4, ← hah]
     rw [jT9] at b4'; have jU0 : G3 z = !(decide (yi = z.i) && decide (yo = z.o)) := by rw [hG3]
     clear hah jT9; obtain ⟨p3, hp3⟩ : ∃ v, v = (g3 && G3 z) := ⟨_, rfl⟩; rw [← hp3] at b3; rw [jU0] at hp3; clear jU0; obtain ⟨zi, zo, zw, zt⟩ := z; simp only at hp3; refine yW ?_; refine q9 rfl (zp (l := [.i 0, .i 0, .i 0, .i 0]) 11 zO rfl rfl rfl rfl) ?_; refine zR ?_
     refine qn (fun s' => s' = ⟨94, [(1, .ref 1 0), (2, .ref 2 0), (5, .ref 5 0), (6, .i q), (7, .ref 7 0), (8, .i i), (9, .ref 9 0), (10, .i j), (11, .ref 11 0)], [(1, ⟨24, [.i st, .d (zq sts)], false, 0⟩), (2, ⟨37, [.b false, .b false, .b false, .b false, .b false], false, 0⟩), (5, ⟨37, [.b c1, .b c2, .b p3, .b g4, .b c5], false, 0⟩), (7, ⟨35, [.i xf, .d (zU xa)], false, 0⟩), (9, ⟨47, [.i yi, .i yo, .i yw, .i yt], false, 0⟩), (11, ⟨47, [.i zi, .i zo, .i zw, .i zt], false, 0⟩)], []⟩) ?_ ?_
     ·skip
      by_cases t1 : yi = zi
      ·by_cases t2 : yo = zo
       ·obtain rfl : p3 = false := by rw [hp3]; simp [t1, t2]
        refine uy ?_; refine W17 ?_; refine ⟨_, ?_, rfl⟩; exact q8
       obtain rfl : p3 = g3 := by rw [hp3]; simp [t1, t2]
       refine yW ?_; refine ⟨_, ?_, rfl⟩; exact q8
      obtain rfl : p3 = g3 := by rw [hp3]; simp [t1]
      refine yW ?_; refine ⟨_, ?_, rfl⟩; exact q8
     rintro s' rfl; clear hp3
     cases ah with
     | true =>
      simp only [Bool.not_true, Bool.and_false] at b4'; refine xd ?_; refine qa vN ?_; refine W25 ?_; refine qB7 ?_; refine zY ?_; refine ⟨_, ?_, ⟨j + 1, p3, false, by omega, b3.symm, b4'.symm, rfl⟩, ?_⟩
      ·exact q8
      exact zM
     | false =>
      simp only [Bool.not_false, Bool.and_true] at b4'; refine xd ?_; refine qa vN ?_; refine qC1 ?_; refine ⟨_, ?_, ⟨j + 1, p3, g4, by omega, b3.symm, b4'.symm, rfl⟩, ?_⟩
      ·exact q8
      exact zM
    obtain rfl : j = i := by omega
    rw [← k3] at a3'; rw [← k4] at a4'; rw [← a2'] at a3'; refine xS ?_; refine ⟨_, ?_, ⟨j + 1, c1, c2, g3, g4, c5, by omega, a1'.symm, a2'.symm, ?_, a4'.symm, a5'.symm, rfl⟩, ?_⟩
    ·exact q8
    ·rw [← a3', a2']
    exact zM
   obtain rfl : i = la := by omega
   rw [take_of_length_le zg] at h1 h2 h5; rw [← h1] at e1; rw [← h2] at e2; rw [← h4] at e4; rw [← h5] at e5; refine uq ?_; refine ⟨_, ?_, ⟨q + 1, b1, b2, b3, d3 && uA xa i, b4, b5, by omega, e1.symm, e2.symm, e3.symm, h3, e4.symm, e5.symm, rfl⟩, ?_⟩
   ·exact q8
   exact zM
  rw [take_of_length_le zg] at h1 h2 h3 h4 h5; have k1 : bA sts = u1 := h1.symm; have k2 : bFl sts = u2 := h2.symm; have k3 : bDi sts = d3 := h3.symm; have k4 : bSo sts = u4 := h4.symm; have k5 : bPl sts = u5 := h5.symm; rw [k1, k2, k3, k4, k5, ← h6]; clear h1 h2 h3 h4 h5 k1 k2 k3 k4 k5; refine yW ?_; exact ⟨[_, _], zU5, rfl, zU0⟩
 rw [qd7 h0]; obtain ⟨st, sts⟩ := m; obtain ⟨e, he⟩ : ∃ e, zn ⟨st, sts⟩ = e := ⟨_, rfl⟩; rw [he] at h0 ⊢; refine qc 94 fun w0 out => ?_; refine W91 ?_; refine zW ?_; refine qa (Fn.eqi (wz ⟨st, sts⟩) he) ?_; refine qf0 ?_; refine jM8 ?_; exact ⟨[_, _], zU5, rfl, zU0⟩
end Go.Proofs.YthiknkcigcglkaaGreatDoor
