/- Part 32 of what the law SameSames rests on. -/
import Derived.Test.YthiknkcigcglkaaGreatDoorPkSS29
import Derived.Test.YthiknkcigcglkaaGreatDoorPkSS31
namespace Go.Proofs.YthiknkcigcglkaaGreatDoor
open Go.RowKit
open Go.Proofs.Tryz
open List (append_nil cons_append drop_succ_cons drop_zero flatMap_append flatMap_cons flatMap_nil getD_eq_getElem?_getD length_append length_cons length_map length_nil map_append map_cons map_nil mem_of_getElem? nil_append take_zero)
open Nat (le_trans reduceAdd zero_add)
open Option (map_some)
set_option linter.unusedSimpArgs false
set_option linter.unusedVariables false
set_option maxRecDepth 100000
set_option maxHeartbeats 8000000
variable {f j n : Nat} {lj : List (Int × Int)} {x : List Nat}
theorem q05 {α : Type} (e : α → Int × Int) (l : List α) : V.mpsL (l.flatMap (eV2 e)) = false := q84 _ (fun _ => rfl) l
theorem q06 {α : Type} (e : α → Int × Int) (l : List α) : V.itsL (l.flatMap (eV2 e)) = false := q85 _ (fun _ => rfl) l
theorem LjI.row (h : LjI n lj x) {t w : Int} (hj : lj[j]? = some (t, w)) : ∃ q v : Nat, t = (q : Int) ∧ w = (v : Int) ∧ q < n ∧ v ≤ 10000000000000 ∧ mnL x ≤ v ∧ (zK lj (q : Int)).getD 0 = (v : Int) := by
 have hm := mem_of_getElem? hj; obtain ⟨q, v, rfl, rfl, hq, hx, hv⟩ := h.mem.1 hm; have hvx := mem_of_getElem? hx; refine ⟨q, v, rfl, rfl, hq, (h.bd v hvx).resolve_left hv, (qj2 _ x rfl).2.2 v hvx, ?_⟩; rw [(qi0 h.nd).2 hm]; rfl
theorem LjI.short (h : LjI n lj x) : lj.length ≤ n := by
 have h1 : (lj.map fun y => y.1.toNat).Nodup := by
  have e : (lj.map fun y => y.1.toNat) = (lj.map (·.1)).map Int.toNat := by rw [List.map_map]; rfl
  rw [e]; refine List.pairwise_map.2 (List.Pairwise.imp_of_mem ?_ h.nd); intro a b ha hb hab e; obtain ⟨⟨t, w⟩, hm, rfl⟩ := List.mem_map.1 ha; obtain ⟨⟨t', w'⟩, hm', rfl⟩ := List.mem_map.1 hb; obtain ⟨q, v, rfl, rfl, _⟩ := h.mem.1 hm; obtain ⟨q', v', rfl, rfl, _⟩ := h.mem.1 hm'; simp only [Int.toNat_natCast] at e; exact hab (by simp only; omega)
 have h2 : ∀ i ∈ lj.map fun y => y.1.toNat, i < n := by
  intro i hi; obtain ⟨⟨t, w⟩, hm, rfl⟩ := List.mem_map.1 hi; obtain ⟨q, v, rfl, rfl, hq, _⟩ := h.mem.1 hm
  simpa using hq
 have := qf7 h1 h2
 simpa using this
theorem jn2 (lj : List (Int × Int)) (x : List Nat) (n : Nat) (xZ : n ≤ 60) (hI : LjI n lj x) : Fn prog 99 [.d (.mp (zu vI lj))] (fun v => v = .tup [.i ((mnL x : Nat) : Int), .d (uk (toP (sbL x (mnL x))))]) := by
 obtain ⟨ll, wB⟩ : ∃ ll, lj.length = ll := ⟨_, rfl⟩; have jg3 : ll ≤ 60 := by have := hI.short; omega
 have gA : 0 < ll := by have := List.length_pos_iff.2 hI.ne; omega
 have hml : (zu vI lj).length = ll := by simp [zu, wB]
 obtain ⟨m, hm⟩ : ∃ m, mnL x = m := ⟨_, rfl⟩
 have qo3 := fun A => (hI.least (A := A))
 have q52 := fun A => (hI.states (A := A))
 have q25 := hI.parts
 have vi := fun j t w => (hI.row (j := j) (t := t) (w := w))
 simp only [hm] at qo3 q52 q25 vi; rw [hm]; generalize hTP : toP (sbL x m) = TP at q52 q25; refine qc 43 fun w0 out => ?_; refine ve ?_; refine q9 rfl (qy0 11 511 underlying152 rfl rfl rfl rfl zj rfl) ?_; refine zR ?_
 refine qF (fun μ s' => ∃ (seen : List Nat) (b : Int), μ + seen.length = ll ∧ seen.Nodup ∧ (∀ j ∈ seen, j < ll) ∧ b = mnI (seen.map fun j => (lj.getD j (0, 0)).2) ∧ s' = ⟨43, [(0, .d (.mp (zu vI lj))), (4, .i b), (11, .mit 11 511 w0.heap.size (zu vI lj) seen)], [], []⟩) ⟨ll, _, ?_, [], -1, rfl, List.nodup_nil, zx, rfl, rfl⟩ ?_
 ·exact q8
 rintro μ s' ⟨seen, b, hμ, wC, hsj, hb, rfl⟩
 by_cases xE : ∀ j, j < (zu vI lj).length → j ∈ seen
 ·have hbm : b = (m : Int) := by
   rw [hb]
   exact (qo3 _ (qf6 (·.2) (0, 0) lj wC (by rw [wB]; exact hsj) fun j hj => xE j zg)).1
  subst hbm; refine jc4 ?_; refine xB ?_; refine q63 ?_; refine qB 7 901 2 137 rfl (by simp [S.clean, V.has, V.hasL]) ?_; clear xE hsj wC hμ hb; refine zR ?_; refine q9 rfl (qy0 25 525 underlying152 rfl rfl rfl rfl zj rfl) ?_; refine zR ?_
  refine qF (fun μ s' => ∃ (seen : List Nat) (A : List Nat) (la : Nat), μ + la = ll ∧ seen.length = la ∧ seen.Nodup ∧ (∀ j ∈ seen, j < ll) ∧ A = (seen.map fun j => (lj.getD j (0, 0)).1.toNat) ∧ A.length = la ∧ s' = ⟨43, [(4, .i (m : Int)), (7, .own 901 2 la (decide (la = 0))), (25, .mit 25 525 w0.heap.size (zu vI lj) seen)], [(901, ⟨137, A.flatMap (eV2 (eP fun q => (zK lj (q : Int)).getD 0 - (m : Int))), decide (la = 0), 2⟩)], []⟩) ⟨ll, _, ?_, [], [], 0, rfl, rfl, List.nodup_nil, zx, rfl, rfl, rfl⟩ ?_
  ·exact q8
  rintro μ s' ⟨seen, A, la, hμ, hsl, wC, hsj, hA, w5, rfl⟩
  have xA : (A.flatMap (eV2 (eP fun q => (zK lj (q : Int)).getD 0 - (m : Int)))).length = la * 2 := by rw [qi2, w5]
  by_cases xE : ∀ j, j < (zu vI lj).length → j ∈ seen
  ·have hS := q52 A (by
    rw [hA]
    exact qf6 (fun y => y.1.toNat) (0, 0) lj wC (by rw [wB]; exact hsj) fun j hj => xE j zg)
   obtain rfl : la = ll := by
    have := (qI1 wC hsj fun j hj => xE j zg).length_eq
    rw [List.length_range] at this; omega
   have k90 : (leN A).length = la := by rw [(qr5 A).length_eq, w5]
   rw [← hS] at q25
   have ww : ((leN A).map fun q => [D.p (.int .i64 ((q : Nat) : Int)), D.p (.int .i64 ((zK lj (q : Int)).getD 0 - (m : Int)))]) = TP.map ptD := by
    rw [← q25.1, List.map_map]; refine List.map_congr_left fun q hq => ?_; simp only [Function.comp, ptD, Int.toNat_of_nonneg (q25.2 q hq)]
   clear hS q25 qo3 q52 vi; refine jc4 ?_; refine x8 ?_; refine qf rfl (qW8 ⟨func120, rfl, rfl, rfl, rfl⟩ (jI6 fun q => (zK lj (q : Int)).getD 0 - (m : Int)) rfl rfl rfl rfl w5 zg gA rfl) ?_; refine q62 ?_; apply qg
   refine qk 7 16 ((leN A).map fun q => [D.p (.int .i64 ((q : Nat) : Int)), D.p (.int .i64 ((zK lj (q : Int)).getD 0 - (m : Int)))]) rfl rfl rfl (by rw [length_map, k90]) zg (vx (enc := fun q : Nat => [D.p (.int .i64 ((q : Nat) : Int)), D.p (.int .i64 ((zK lj (q : Int)).getD 0 - (m : Int)))]) (sz := 2) (l := leN A) (fun _ => rfl) rfl) ?_; rw [ww]; refine x8 ?_; exact ⟨[_, _], zU4, rfl, zU0⟩
  skip; apply qr
  (refine j6 rfl rfl rfl rfl (by (simp [S.put, S.newObj, xg, V.cs, V.itsL, V.its, q05, q06]; done)) rfl rfl rfl zm (fun j kv hj hns => ?_); simp only [S.put, map_cons, map_nil, qy1, qg5, qg6, qp6, q87, qg7, q86])
  refine W75 ?_
  obtain ⟨⟨t, w⟩, hMj, rfl⟩ : ∃ y, lj[j]? = some y ∧ (vI y.1, vI y.2) = kv := by
   simp only [zu, List.getElem?_map] at hj
   cases hMj : lj[j]? with
   | none => rw [hMj] at hj; cases hj
   | some y => rw [hMj] at hj; exact ⟨y, rfl, Option.some.inj hj⟩
  have hjM : j < ll := by rw [← wB]; exact (List.getElem?_eq_some_iff.1 hMj).1
  obtain ⟨um, gQ⟩ := ql9 wC hsj hjM hns; have qi8 := qf7 um gQ; simp only [length_append, length_cons, length_nil, hsl] at qi8; obtain ⟨q, v, rfl, rfl, hq, hv1, hv2, hv3⟩ := vi j t w hMj
  have hA2 : A ++ [q] = (seen ++ [j]).map fun j => (lj.getD j (0, 0)).1.toNat := by
   rw [map_append, ← hA]; simp [getD_eq_getElem?_getD, hMj]
  have hE : eV2 (eP fun q => (zK lj (q : Int)).getD 0 - (m : Int)) q = [.i (q : Int), .i ((v : Int) - (m : Int))] := by simp only [eV2, eP, hv3]
  clear xE qo3 q52 q25 vi; refine Dv ?_; refine AL.rd rfl rfl (uw (vk := .i (q : Int)) (vv := .i (v : Int)) rfl rfl hj (fun _ _ _ => .d _ _ (.p _)) (fun _ _ _ => .d _ _ (.p _))) ?_; refine xu ?_; refine qe rfl rfl (xI (vs := [(0, _), (1, _)]) (zs := [.i 0, .i 0]) jB5 q15 rfl rfl rfl rfl) ?_
  refine q9 rfl (zN (vs := [(0, _)]) (zs := [.i 0, .i 0]) 37 underlying139 q15 rfl rfl zj zj zj rfl rfl rfl rfl zT0 rfl rfl) ?_; refine qf rfl (xK underlying139 q15 rfl zj rfl rfl rfl rfl rfl rfl zT5 zT0 rfl rfl rfl rfl rfl rfl rfl zj zg zg rfl) ?_; refine W29 ?_; refine ⟨μ - 1, _, ?_, ⟨seen ++ [j], A ++ [q], la + 1, by omega, by simp [hsl], um, gQ, hA2, by simp [w5], rfl⟩, by omega⟩
  simp only [flatMap_append, flatMap_cons, flatMap_nil, append_nil, hE]; exact q8
 skip; apply qr
 (refine j6 rfl rfl rfl rfl rfl rfl rfl rfl zm (fun j kv hj hns => ?_); simp only [S.put, map_cons, map_nil, qy1, qg5, qg6, qp6, q87, qg7, q86])
 refine W75 ?_
 obtain ⟨⟨t, w⟩, hMj, rfl⟩ : ∃ y, lj[j]? = some y ∧ (vI y.1, vI y.2) = kv := by
  simp only [zu, List.getElem?_map] at hj
  cases hMj : lj[j]? with
  | none => rw [hMj] at hj; cases hj
  | some y => rw [hMj] at hj; exact ⟨y, rfl, Option.some.inj hj⟩
 have hjM : j < ll := by rw [← wB]; exact (List.getElem?_eq_some_iff.1 hMj).1
 obtain ⟨um, gQ⟩ := ql9 wC hsj hjM hns; have qi8 := qf7 um gQ; simp only [length_append, length_cons, length_nil] at qi8
 have hb2 : mnI ((seen ++ [j]).map fun j => (lj.getD j (0, 0)).2) = if b < 0 ∨ w < b then w else b := by
  rw [map_append, map_cons, map_nil, qZ9, ← hb]; simp [getD_eq_getElem?_getD, hMj]
 clear xE qo3 q52 q25 vi hb
 by_cases c1 : b < 0
 ·rw [if_pos (.inl c1)] at hb2
  refine Dv ?_; refine AL.rd rfl rfl (uw (vk := .i t) (vv := .i w) rfl rfl hj (fun _ _ _ => .d _ _ (.p _)) (fun _ _ _ => .d _ _ (.p _))) ?_; refine uy ?_; refine ⟨μ - 1, _, ?_, ⟨seen ++ [j], w, by simp; omega, um, gQ, hb2.symm, rfl⟩, by omega⟩; exact q8
 by_cases c2 : w < b
 ·rw [if_pos (.inr c2)] at hb2
  refine Dv ?_; refine AL.rd rfl rfl (uw (vk := .i t) (vv := .i w) rfl rfl hj (fun _ _ _ => .d _ _ (.p _)) (fun _ _ _ => .d _ _ (.p _))) ?_; refine uy ?_; refine ⟨μ - 1, _, ?_, ⟨seen ++ [j], w, by simp; omega, um, gQ, hb2.symm, rfl⟩, by omega⟩; exact q8
 rw [if_neg (fun h => h.elim c1 c2)] at hb2
 refine Dv ?_; refine AL.rd rfl rfl (uw (vk := .i t) (vv := .i w) rfl rfl hj (fun _ _ _ => .d _ _ (.p _)) (fun _ _ _ => .d _ _ (.p _))) ?_; refine vF ?_; refine ⟨μ - 1, _, ?_, ⟨seen ++ [j], b, by simp; omega, um, gQ, hb2.symm, rfl⟩, by omega⟩; exact q8
abbrev qj4 (L : List (List Nat)) : List V := L.map fun d => V.d (uk (toP d))
theorem q26 (L : List (List Nat)) : V.mpsL (qj4 L) = false := by grind [V.mpsL_false, V.mps, D.mps, wA]
theorem q27 (L : List (List Nat)) : V.itsL (qj4 L) = false := by
 rw [V.itsL_false]; intro v hv; obtain ⟨d, _, rfl⟩ := List.mem_map.1 hv; rfl
theorem jV7 (L : List ((Int × Int) × List (Int × Int))) : qh4 (mmr wi L) = true := jk4 (fun _ => rfl) L
theorem jK0 (r : Nat) (l : List (Value × Value)) (L : List ((Int × Int) × List (Int × Int))) : upT r l (.d (.mm (mmr wi L))) = .d (.mm (mmr wi L)) := jR0 r l (jV7 L)
theorem jK1 (r : Nat) (l : List (Value × Value)) (x : List (Nat × Nat)) : upT r l (.d (uk x)) = .d (uk x) := jk3 r l (wA x)
abbrev prD (p : Ar) : List D := [.p (.int .i64 p.i), .p (.int .i64 p.o)]
theorem qe1 (r : Nat) (l : List (Value × Value)) (x : List Ar) : upT r l (.d (.sl 2 16 (x.map prD))) = .d (.sl 2 16 (x.map prD)) := jk3 r l (gJ _ (fun _ => rfl) x)
theorem q28 (r : Nat) (l : List (Value × Value)) (a : Value) : upM r l (.agg [.d (.p a)]) = .agg [.d (.p a)] := rfl
theorem jn3 (r : Nat) (l : List (Value × Value)) (a : Value) : upT r l (.agg [.d (.p a)]) = .agg [.d (.p a)] := rfl
theorem jA5 (r : Nat) (l : List (Value × Value)) (x : V) (y : Value) (h : x.mps = false) : upT r l (.tup [x, .d (.p y)]) = .tup [x, .d (.p y)] := jG3 r l (by simp [V.mpsL, V.mps, D.mps, h])
theorem jZ4 {w : World} {q : Nat → Prop} {g : Nat → Nat × Nat} (a b : Int) : VRep w q g (.agg [.i a, .i b]) (wi (a, b)) :=
 .agg _ [.int .i64 a, .int .i64 b] rfl fun j u y hu hy => by
  match j, hu, hy with
  | 0, hu, hy => simp at hu hy; subst hu hy; exact .d _ _ (.p _)
  | 1, hu, hy => simp at hu hy; subst hu hy; exact .d _ _ (.p _)
  | n + 2, hu, hy => simp at hu
theorem jn4 (h1 : f ≠ big) (h2 : 1000000000 < f) : 1000000000 < q40 f := by unfold q40; rw [if_neg h1]; omega
theorem qL8 (h : f = big) : q40 f = -1 ∧ gv f = 1000000001 := by unfold q40 gv; rw [if_pos h, if_pos h]; exact ⟨rfl, rfl⟩
theorem j95 (h : ¬ f = big) (h2 : ¬ 1000000000 < f) : 0 ≤ q40 f ∧ q40 f ≤ 1000000000 ∧ gv f = q40 f := by unfold q40 gv; rw [if_neg h, if_neg h]; omega
theorem jA6 (m : zr) : FnP uj prog 53 [mV m] (fun v => jy9 (ceE m) (ceM m) v) := by
 have wT := j66 m
 by_cases h0 : zn m = 0
 ·rw [qd6 h0, h0] at wT
  cases xA : bFl m.states with
  | false =>
   have hE : ceE m = 7 := by unfold ceE; rw [if_neg (by simp [h0]), if_pos xA]
   rw [hE]; rw [xA] at wT; clear hE h0 xA; obtain ⟨st, sts⟩ := m; refine qx 156 fun w0 out wK => ?_; refine W96 ?_; refine qa wT ?_; refine zQ ?_; refine W27 ?_; refine yB ?_; refine W11 ?_; exact ⟨[_, _], zU1, zU8, zU0⟩
  | true =>
   rw [xA] at wT
   by_cases y7 : m.start < 0
   ·obtain ⟨hE, hM⟩ := j90 h0 xA y7
    rw [hE, hM]; clear hE hM h0 xA; obtain ⟨st, sts⟩ := m; simp only at y7; refine qx 156 fun w0 out wK => ?_; refine W96 ?_; refine qa wT ?_; refine zQ ?_; refine W27 ?_; refine jN6 ?_; refine zW ?_; exact ⟨[_, _], zU1, .inr ⟨rfl, .inr ⟨rfl, rfl⟩⟩, zU0⟩
   obtain ⟨e, P0, zv⟩ : ∃ e P, qi5 m = (e, P) := ⟨_, _, rfl⟩; obtain ⟨hE, hM⟩ := j91 h0 xA y7 zv; rw [hE]; obtain ⟨M, hMd⟩ : ∃ M, ceM m = M := ⟨_, rfl⟩; rw [hMd] at hM ⊢; obtain ⟨z60, z400, zst, zok⟩ := xj h0
   have hx4 : ∀ x ∈ m.states, x.arcs.length ≤ 400 := fun x hx => le_trans (qn8 hx) z400
   clear hMd h0 xA hE; obtain ⟨st, sts⟩ := m; simp only at y7 z60 z400 zst zok hx4
   obtain ⟨s, rfl⟩ := Int.eq_ofNat_of_zero_le (show 0 ≤ st by omega)
   obtain ⟨n, hn⟩ : ∃ n, sts.length = n := ⟨_, rfl⟩; have hr0 : q77 sts 61 [yD n s] 0 [] = (e, P0) := by grind [qi5, Int.toNat_natCast]
   clear zv
   have jz0 : ∀ x ∈ sts, ∀ a ∈ x.arcs, a.w ≤ 1000000000 := fun x hx a ha => by grind [xl]
   have jZ5 : ∀ x ∈ sts, ∀ a ∈ x.arcs, 0 ≤ a.w ∧ a.w ≤ 1000000000 := fun x hx a ha => by grind [xl]
   have x6 := fun (d : List Nat) (hd : d.length = n) (hb : ∀ x ∈ d, x = big ∨ x ≤ 1000000000000) => jV4 zg hd hb
   have ur : ∀ d : List Nat, d.length = n → (∀ x ∈ d, x = big ∨ x ≤ 1000000000000) → Fn prog 95 [.d (uk (toP d)), mV ⟨(s : Int), sts⟩] (fun v => v = .i (q40 (wX sts d n))) := by
    intro d hd hb
    have h1 := jy8 (s : Int) sts (toP d) (by have := (x6 d hd hb).1; omega) (by rw [hn]; exact (x6 d hd hb).2) z60 fun x hx => (zok x hx).1
    rw [jz8 (by rw [hd, hn]) hb fun x hx => (zok x hx).1, hd] at h1
    exact h1
   have jV8 : ∀ d : List Nat, d.length = n → (∀ x ∈ d, x = big ∨ x ≤ 1000000000000) → Fn prog 96 [.d (uk (toP d)), mV ⟨(s : Int), sts⟩] (fun v => v = .d (.mm (mmr wi (rcP sts (toP d))))) := fun d hd hb => jg5 (s : Int) sts (toP d) (by have := (x6 d hd hb).1; omega) (by rw [hn]; exact (x6 d hd hb).2) z60 hx4 jZ5
   have qS8 : ∀ d : List Nat, d.length = n → (∀ x ∈ d, x = big ∨ x ≤ 1000000000000) → FnP uj prog 94 [.d (uk (toP d))] (fun v => v = .s (kyS (toP d))) := fun d hd hb => jR8 (toP d) (by have := (x6 d hd hb).1; omega) fun x hx => ((x6 d hd hb).2 x hx).1
   have jV9 : ∀ d : List Nat, d.length = n → (∀ x ∈ d, x = big ∨ x ≤ 1000000000000) → _ := fun d hd hb => jA2 (sts := sts) (by rw [hd, hn]) hb fun x hx => (zok x hx).2
   have qk2 : ∀ d : List Nat, d.length = n → (∀ x ∈ d, x = big ∨ x ≤ 1000000000000) → ∀ p : Ar, p ∈ prS sts d → _ := fun d hd hb p hp => jA4 (sts := sts) (by rw [hd, hn]) hb (fun x hx => (zok x hx).2) hp
   rw [hn] at z60 zst zok; have vl : s < n := by omega
   have uW := jJ8 vl; have qo2 : (yD n s).length = n := by simp [yD]
   obtain ⟨D0, hD0⟩ : ∃ D0, yD n s = D0 := ⟨_, rfl⟩
   have hDb : ∀ x ∈ D0, x = big ∨ x ≤ 0 := fun x hx => by grind [yD, List.mem_or_eq_of_mem_set]
   rw [hD0] at hr0 uW qo2
   have hB0 : ∀ (j : Nat) (d : List Nat), [D0][j]? = some d → ceB n (j * 1000000000) d := fun j d hj => by
    cases j with
    | succ j => simp at hj
    | zero =>
     simp at hj; subst hj
     exact ⟨qo2, fun x hx => by have := hDb x hx; omega⟩
   have hk0 := qS8 D0 qo2 fun x hx => (hDb x hx).imp_right fun h => by omega
   clear hD0 hDb; refine qx 156 fun w0 out wK => ?_; refine W96 ?_; refine qa wT ?_; refine zQ ?_; refine W27 ?_
   iterate 29 refine Dv ?_
   refine qe rfl rfl (xI (vs := [(0, _), (1, _)]) (zs := [.i 0, .i 0]) jB5 q15 rfl rfl rfl rfl) ?_; refine q9 rfl (zN (vs := [(0, _)]) (zs := [.i 0, .i 0]) 42 underlying139 q15 rfl rfl zj zj zj rfl rfl rfl rfl rfl rfl rfl) ?_; refine W31 ?_; refine qk 6 16 ([(s, 0)].map ptD) rfl rfl rfl rfl zg (vx (enc := ptD) (sz := 2) (l := [(s, 0)]) (fun _ => rfl) rfl) ?_; rw [← uW]
   refine AW.less (s' := ⟨156, [(1, .ref 1 0), (2, .ref 2 0), (6, .d (uk (toP D0)))], [(1, ⟨24, [.i (s : Int), .d (zq sts)], false, 0⟩), (2, ⟨24, [.i 0, .nil], false, 0⟩)], []⟩) q8 ?_; refine Dv ?_; refine q9 rfl (q48 43 rfl rfl rfl) ?_; refine Dv ?_; refine qA hk0 ?_; refine zQ ?_; refine qe rfl rfl (xI (vs := [(0, _)]) (zs := [.i 0]) jW3 qc2 rfl rfl rfl rfl) ?_
   refine qf rfl (je2 underlying9 underlying141 rfl rfl rfl rfl rfl rfl (by simp [S.put, S.newObj, xg, V.cs, V.mpsL, V.mps, D.mps, D.mpsL, D.mpsR, vM, vZ, V.one, yJ, qe1, q28, yI, q05, q26, wA, yG, yH, q06, q27]) rfl) ?_
   simp only [List.take_succ_cons, take_zero, drop_succ_cons, drop_zero, length_cons, length_nil, zero_add, reduceAdd, cons_append, nil_append, S.put, map_cons, map_nil, qx9, qc8, qc9, qm8, q70, qd0, qm7, V.mpsL, V.mps, D.mps, D.mpsL, Bool.or_false, Bool.or_self,  vM, vZ, yJ, qe1, q28, yI, q05, q26, wA, yG, yH, q06, q27]; refine W81 ?_
   refine AW.less (s' := ⟨156, [(1, .ref 1 0), (2, .ref 2 0), (6, .d (uk (toP D0))), (7, .mp 43 w0.heap.size (xW [(kyS (toP D0), 0)]))], [(1, ⟨24, [.i (s : Int), .d (zq sts)], false, 0⟩), (2, ⟨24, [.i 0, .nil], false, 0⟩)], []⟩) q8 ?_; refine zR ?_; refine q9 rfl (zN (vs := [(0, _)]) (zs := [.nil]) 49 underlying142 qw8 rfl rfl zj zj zj rfl rfl rfl rfl rfl rfl rfl) ?_; refine xd ?_
   refine q9 rfl (zp (l := [.i 0, .nil]) 9 xN rfl rfl rfl rfl) ?_; refine Dv ?_; apply qg; refine qq 9 1 902 2 35 rfl rfl rfl zT1 ?_; refine zC ?_; clear hk0 uW wT
   refine qF (fun μ s' => ∃ (L : List (List Nat)) (a : Nat) (P : List St), 61 - P.length ≤ μ ∧ q77 sts (61 - P.length) L a P = (e, P0) ∧ L.Nodup ∧ (∀ (j : Nat) (d : List Nat), L[j]? = some d → ceB n (j * 1000000000) d) ∧ P.length ≤ L.length ∧ L.length ≤ 60 ∧ a ≤ 400 ∧ s' = ⟨156, [(1, .ref 1 0), (2, .ref 2 0), (7, .mp 43 w0.heap.size (xW (gR L))), (8, .own 49 1 L.length false), (9, .ref 9 0), (10, .i a)], [(1, ⟨24, [.i (s : Int), .d (zq sts)], false, 0⟩), (2, ⟨24, [.i 0, .nil], false, 0⟩), (49, ⟨139, qj4 L, false, 1⟩), (9, ⟨24, [.i 0, .own 902 2 P.length (decide (P.length = 0))], false, 0⟩), (902, ⟨35, P.flatMap xT, decide (P.length = 0), 2⟩)], []⟩) ⟨61, _, ?_, [D0], 0, [], by simp, by simpa using hr0, by simp, hB0, by simp, by simp, by omega, rfl⟩ ?_
   ·rw [jA0]
    exact q8
   clear hB0 hr0 qo2; rintro μ s' ⟨L, a, P, hμ, vf, wC, hBd, wy, jg3, ha4, rfl⟩; obtain ⟨q, wu⟩ : ∃ q, P.length = q := ⟨_, rfl⟩; obtain ⟨lt, zk⟩ : ∃ lt, L.length = lt := ⟨_, rfl⟩
   have qZ3 : (P.flatMap xT).length = q * 2 := by rw [vh (sz := 2) (fun _ => rfl), wu]
   rw [wu, zk] at wy; rw [zk] at jg3; rw [wu] at hμ vf; simp only [wu, zk]
   by_cases hql : q < lt
   ·obtain ⟨d, hd⟩ := zl zk hql
    obtain ⟨hdl, hdB⟩ := hBd q d hd
    have hdb : ∀ x ∈ d, x = big ∨ x ≤ 1000000000000 := fun x hx => (hdB x hx).imp_right fun h => by omega
    rw [show 61 - q = (60 - q) + 1 by omega, j83 (by rw [wu]; exact hd), hdl] at vf
    have hf1 := ur d hdl hdb; have hrc := jV8 d hdl hdb; obtain ⟨ks, hks, qG6, hkl⟩ := jV9 d hdl hdb; have hfd := qk2 d hdl hdb; rw [hdl] at hfd; have hp4 : (prS sts d).length ≤ 400 := le_trans (j89 sts d) z400; obtain ⟨fv, hfv⟩ : ∃ fv, wX sts d n = fv := ⟨_, rfl⟩; rw [hfv] at hf1 vf; obtain ⟨F, hF⟩ : ∃ F, q40 fv = F := ⟨_, rfl⟩; rw [hF] at hf1
    have hXB := fun p : Ar => qo0 (i := p.i) (o := p.o) ⟨hdl, hdB⟩ jz0
    have hXe : ∀ p : Ar, bhD sts d p.i p.o = nxL sts d p := fun _ => rfl
    simp only [hXe] at hXB; clear ur jV8 jV9 qk2 hXe hfv
    by_cases hov : fv ≠ big ∧ 1000000000 < fv
    ·rw [if_pos hov] at vf
     obtain ⟨rfl, _⟩ := Prod.mk.inj vf; have hF1 := jn4 hov.1 hov.2; rw [hF] at hF1; refine gC ?_; refine qa hf1 ?_; refine zQ ?_; refine jM1 ?_; refine ve ?_; refine W11 ?_; exact ⟨[_, _], zU1, zU8, zU0⟩
    rw [if_neg hov] at vf; obtain ⟨ft, hft⟩ : ∃ ft, gv fv = ft := ⟨_, rfl⟩; rw [hft] at vf
    have hF1 : ¬ 1000000000 < F := by
     by_cases hb : fv = big
     ·have := (qL8 hb).1
      omega
     have := j95 hb (fun h => hov ⟨hb, h⟩)
     omega
    refine gC ?_; refine qa hf1 ?_; refine zQ ?_; refine jM1 ?_; refine ve ?_
    refine qn (fun s' => s' = ⟨156, [(1, .ref 1 0), (2, .ref 2 0), (7, .mp 43 w0.heap.size (xW (gR L))), (8, .own 49 1 lt false), (9, .ref 9 0), (10, .i a), (11, .d (uk (toP d))), (12, .ref 12 0)], [(1, ⟨24, [.i (s : Int), .d (zq sts)], false, 0⟩), (2, ⟨24, [.i 0, .nil], false, 0⟩), (49, ⟨139, qj4 L, false, 1⟩), (9, ⟨24, [.i 0, .own 902 2 q (decide (q = 0))], false, 0⟩), (902, ⟨35, P.flatMap xT, decide (q = 0), 2⟩), (12, ⟨35, [.i ft, .nil], false, 0⟩)], []⟩) ?_ ?_
    ·skip
     by_cases hb : fv = big
     ·obtain ⟨e1, e2⟩ := qL8 hb
      obtain rfl : F = -1 := by omega
      obtain rfl : ft = 1000000001 := by omega
      refine xB ?_; refine W72 ?_; refine ⟨_, ?_, rfl⟩; exact q8
     obtain ⟨e1, e2, e3⟩ := j95 hb (fun h => hov ⟨hb, h⟩)
     have e4 : ft = F := by omega
     rw [e4]; have hF0 : ¬ F < 0 := by omega
     refine x8 ?_; refine ⟨_, ?_, rfl⟩; exact q8
    rintro s' rfl; obtain ⟨RC, hRC⟩ : ∃ RC, rcP sts (toP d) = RC := ⟨_, rfl⟩; rw [hRC] at hrc hks hfd; clear hF hov hft hF1 hf1 hRC; obtain ⟨nk, hnk⟩ : ∃ nk, ks.length = nk := ⟨_, rfl⟩; rw [hnk] at hkl; refine xd ?_; refine qa hrc ?_; refine qs3 ?_; refine q63 ?_; refine qB 14 903 2 147 rfl zT1 ?_; refine qq 12 1 904 4 47 rfl rfl rfl zT1 ?_; refine zR ?_
    refine ki 78 578 rfl underlying143 rfl rfl zT0 zT0 zj rfl fun l' hl' => ?_; refine zR ?_
    have hl2 : l'.map (·.1) = ks.map fun x => wi (eL x) := by
     rw [hl', List.map_map]; have := congrArg (List.map wi) hks; rw [List.map_map, List.map_map] at this; exact this
    have hl3 : l'.length = nk := by grind [List.length, length_map]
    clear hl' hks
    refine qF (fun μ s' => ∃ (seen : List Nat) (A : List uC) (la : Nat), μ + la = nk ∧ seen.length = la ∧ seen.Nodup ∧ (∀ j ∈ seen, j < nk) ∧ A = (seen.map fun j => id (ks.getD j default)) ∧ A.length = la ∧ s' = ⟨156, [(1, .ref 1 0), (2, .ref 2 0), (7, .mp 43 w0.heap.size (xW (gR L))), (8, .own 49 1 lt false), (9, .ref 9 0), (10, .i a), (12, .ref 12 0), (13, .d (.mm (mmr wi RC))), (14, .own 903 2 la (decide (la = 0))), (78, .mit 78 578 w0.heap.size l' seen)], [(1, ⟨24, [.i (s : Int), .d (zq sts)], false, 0⟩), (2, ⟨24, [.i 0, .nil], false, 0⟩), (49, ⟨139, qj4 L, false, 1⟩), (9, ⟨24, [.i 0, .own 902 2 q (decide (q = 0))], false, 0⟩), (902, ⟨35, P.flatMap xT, decide (q = 0), 2⟩), (12, ⟨35, [.i ft, .own 904 4 0 true], false, 0⟩), (904, ⟨47, [], true, 4⟩), (903, ⟨147, A.flatMap (eV2 eL), decide (la = 0), 2⟩)], []⟩) ⟨nk, _, ?_, [], [], 0, rfl, rfl, List.nodup_nil, zx, rfl, rfl, rfl⟩ ?_
    ·exact q8
    rintro μ2 s' ⟨seen, A, la, hμ2, hsl, uh, hsj, hA, w5, rfl⟩; have k91 : (A.flatMap (eV2 eL)).length = la * 2 := by rw [qi2, w5]
    by_cases xE : ∀ j, j < l'.length → j ∈ seen
    ·have hAp : A.Perm ks := by
      rw [hA]
      have := qf6 id default ks uh (by rw [hnk]; exact hsj) fun j hj => xE j zg
      rwa [List.map_id] at this
     obtain rfl : la = nk := by
      have := hAp.length_eq; omega
     have hK := qG6 A hAp
     have ww : ((leL A).map fun x => [D.p (.int .i64 (x.i : Int)), D.p (.int .i64 (x.o : Int))]) = (prS sts d).map prD := by
      have := congrArg (List.map fun k : Int × Int => [D.p (.int .i64 k.1), D.p (.int .i64 k.2)]) hK
      rw [List.map_map, List.map_map] at this; exact this
     have hLl : (leL A).length = la := by rw [(qj3 A).length_eq, w5]
     obtain ⟨PR, hPR⟩ : ∃ PR, prS sts d = PR := ⟨_, rfl⟩; rw [hPR] at vf hfd ww hkl hp4; have hlp : PR.length = la := hkl.symm; rw [hlp] at hp4; have qA3 : yC sts d (PR.drop 0) L a [] = yC sts d PR L a [] := by rw [drop_zero]
     clear qG6 hK hPR hA hsj uh hμ2 hl2 hAp; refine jc4 ?_; refine x8 ?_; refine qf rfl (jl9 ⟨func97, rfl, rfl, rfl, rfl⟩ jI7 qN0 rfl rfl rfl rfl w5 zg rfl) ?_; refine q62 ?_; refine q63 ?_
     refine qk 14 16 ((leL A).map fun x => [D.p (.int .i64 (x.i : Int)), D.p (.int .i64 (x.o : Int))]) rfl rfl rfl (by rw [length_map, hLl]) zg (vx (enc := fun x : uC => [D.p (.int .i64 (x.i : Int)), D.p (.int .i64 (x.o : Int))]) (sz := 2) (l := leL A) (fun _ => rfl) rfl) ?_; rw [ww]; refine zY ?_; clear ww hLl xE hl3 hsl k91 hkl
     refine qb (fun s' => ∃ (i : Nat) (L' : List (List Nat)) (a' : Nat) (o : List Ar), i ≤ la ∧ yC sts d (PR.drop i) L' a' o = yC sts d PR L a [] ∧ L'.Nodup ∧ (∀ (j' : Nat) (d : List Nat), L'[j']? = some d → ceB n (j' * 1000000000) d) ∧ q < L'.length ∧ L'.length ≤ 60 ∧ a' ≤ 400 ∧ o.length ≤ a' ∧ s' = ⟨156, [(1, .ref 1 0), (2, .ref 2 0), (7, .mp 43 w0.heap.size (xW (gR L'))), (8, .own 49 1 L'.length false), (9, .ref 9 0), (10, .i a'), (12, .ref 12 0), (13, .d (.mm (mmr wi RC))), (89, .d (.sl 2 16 (PR.map prD))), (90, .i la), (91, .i i)], [(1, ⟨24, [.i (s : Int), .d (zq sts)], false, 0⟩), (2, ⟨24, [.i 0, .nil], false, 0⟩), (49, ⟨139, qj4 L', false, 1⟩), (9, ⟨24, [.i 0, .own 902 2 q (decide (q = 0))], false, 0⟩), (902, ⟨35, P.flatMap xT, decide (q = 0), 2⟩), (12, ⟨35, [.i ft, .own 904 4 o.length (decide (o.length = 0))], false, 0⟩), (904, ⟨47, o.flatMap vG, decide (o.length = 0), 4⟩)], []⟩) (fun s' => la - s'.nat 91) ⟨_, ?_, 0, L, a, [], by omega, qA3, wC, hBd, by omega, by omega, ha4, by simp, rfl⟩ ?_
     ·rw [zk]; exact q8
     clear qA3 wC hBd; rintro s' ⟨i, L', a', o, hi, zv, wC, hBd, jz2, jg4, jz3, hoa, rfl⟩; obtain ⟨lt', xn⟩ : ∃ lt, L'.length = lt := ⟨_, rfl⟩; obtain ⟨no, vO⟩ : ∃ no, o.length = no := ⟨_, rfl⟩
     have jy6 : (o.flatMap vG).length = no * 4 := by rw [vh (sz := 4) (fun _ => rfl), vO]
     have k86 : (qj4 L').length = lt' * 1 := by rw [length_map, xn, Nat.mul_one]
     rw [xn] at jz2 jg4; rw [vO] at hoa; simp only [xn, vO]
     by_cases vr : i < la
     ·obtain ⟨p, hp⟩ := zl hlp vr
      rw [j81 hp] at zv; obtain ⟨jj, lj, hkf, hI⟩ := hfd p (mem_of_getElem? hp); have xR := jn2 lj (nxL sts d p) n z60 hI; have jA7 := hXB p; obtain ⟨X, hX⟩ : ∃ X, nxL sts d p = X := ⟨_, rfl⟩; rw [hX] at xR jA7 zv; obtain ⟨pi, po, pw, pt⟩ := p; simp only at hkf zv; obtain ⟨w, hw⟩ : ∃ w, mnL X = w := ⟨_, rfl⟩; rw [hw] at xR zv; obtain ⟨hZl, hZB⟩ := qL4 (w := w) jA7
      generalize sbL X w = Z at xR zv hZl hZB
      have hkz := qS8 Z hZl fun x hx => (hZB x hx).imp_right fun h => by omega
      clear hX hI jA7 hw
      by_cases hw9 : 1000000000 < w
      ·rw [if_pos hw9] at zv
       rw [← zv] at vf; simp only at vf; rw [if_pos zj] at vf; obtain ⟨rfl, _⟩ := Prod.mk.inj vf; clear zv; have k92 : (w : Int) > 1000000000 := by omega
       refine W92 ?_; refine zC ?_; refine AL.rd rfl rfl (bv wV underlying143 yr rfl rfl (fun g a w hs => wW (hs.ev rfl)) zm) ?_; refine qa xR ?_; refine W93 ?_; refine W11 ?_; exact ⟨[_, _], zU1, zU8, zU0⟩
      rw [if_neg hw9] at zv; have k92 : ¬ (w : Int) > 1000000000 := by omega
      have hmg := jA1 hZl (L := L') fun x hx => by
       obtain ⟨j, hj⟩ := List.getElem?_of_mem hx; exact (hBd j x hj).1
      rw [xn] at hmg
      by_cases hix : lIx L' Z = lt'
      ·rw [if_pos hix] at hmg
       have had : lAd L' Z = L' ++ [Z] := by unfold lAd; rw [if_pos (by rw [xn]; exact hix)]
       rw [had, hix, length_append, xn] at zv; simp only [length_cons, length_nil, zero_add] at zv; have um : (L' ++ [Z]).Nodup := had ▸ qL2 wC; have zT : gR L' ≠ [] := jJ7 (by rintro rfl; simp at xn; omega); refine W92 ?_; refine zC ?_; refine AL.rd rfl rfl (bv wV underlying143 yr rfl rfl (fun g a w hs => wW (hs.ev rfl)) zm) ?_; refine qa xR ?_; refine qC0 ?_; refine qA hkz ?_; refine zQ ?_
       refine AL.rd rfl rfl (q97 underlying9 underlying141 qc2 rfl rfl rfl zm) ?_; refine jq3 ?_; refine q61 ?_
       refine AW.less (s' := ⟨156, [(1, .ref 1 0), (2, .ref 2 0), (7, .mp 43 w0.heap.size (xW (gR L'))), (8, .own 49 1 lt' false), (9, .ref 9 0), (10, .i a'), (12, .ref 12 0), (13, .d (.mm (mmr wi RC))), (17, .ref 17 0), (18, .i (w : Int)), (19, .d (uk (toP Z))), (20, .ref 20 0), (89, .d (.sl 2 16 (PR.map prD))), (90, .i la), (91, .i i)], [(1, ⟨24, [.i (s : Int), .d (zq sts)], false, 0⟩), (2, ⟨24, [.i 0, .nil], false, 0⟩), (49, ⟨139, qj4 L', false, 1⟩), (9, ⟨24, [.i 0, .own 902 2 q (decide (q = 0))], false, 0⟩), (902, ⟨35, P.flatMap xT, decide (q = 0), 2⟩), (12, ⟨35, [.i ft, .own 904 4 no (decide (no = 0))], false, 0⟩), (904, ⟨47, o.flatMap vG, decide (no = 0), 4⟩), (17, ⟨147, [.i pi, .i po], false, 0⟩), (20, ⟨140, [.i 0], false, 0⟩)], []⟩) q8 ?_
       refine zW ?_; refine W72 ?_; apply qg; refine jk [(0, 2), (1, 2), (3, 1), (2, 0), (4, 0)] (fun i => !([4] : List Nat).contains i) 5 zh zh rfl zh ?_; refine qS rfl rfl rfl (fun _ _ h => h) (vC rfl rfl) ?_; refine qS rfl rfl rfl (fun _ _ h => h) (vC rfl rfl) ?_; refine AF1.rd rfl rfl rfl (fun _ _ h => h) (vQ underlying140 rfl qc2 rfl rfl rfl rfl rfl rfl) ?_; refine jm ?_
       refine qX (post := ?pc141) rfl rfl (yL (args := [_]) (yM _ _ _ _) zm ?hc141 ⟨func94, rfl, rfl, rfl, rfl⟩ rfl rfl rfl rfl) ?_
       case hc141 => exact hkz
       rintro _ rfl -; refine zQ ?_; refine jn ?_; refine kc rfl rfl rfl (qM8 underlying9 underlying141 rfl rfl rfl rfl rfl zm zm rfl (by simp [S.put, S.newObj, xg, V.cs, V.mpsL, V.mps, D.mps, D.mpsL, D.mpsR, vM, vZ, yJ, qe1, q28, yI, q05, q26, wA, yG, yH, q06, q27]) rfl) ?_
       simp only [S.put, map_cons, map_nil, jY3, jG1, jG2, jQ9, jv1, jK0, jK1, jn3, jA5, yJ, qe1, q28, yI, q05, q26, wA, yG, yH, q06, q27]; refine jz ?_; refine qa3 ?_
       refine AW.less (s' := ⟨156, [(1, .ref 1 0), (2, .ref 2 0), (7, .mp 43 w0.heap.size (xW (gR L' ++ [(kyS (toP Z), (lt' : Int))]))), (8, .own 49 1 lt' false), (9, .ref 9 0), (10, .i a'), (12, .ref 12 0), (13, .d (.mm (mmr wi RC))), (17, .ref 17 0), (18, .i (w : Int)), (19, .d (uk (toP Z))), (20, .ref 20 0), (89, .d (.sl 2 16 (PR.map prD))), (90, .i la), (91, .i i)], [(1, ⟨24, [.i (s : Int), .d (zq sts)], false, 0⟩), (2, ⟨24, [.i 0, .nil], false, 0⟩), (49, ⟨139, qj4 L', false, 1⟩), (9, ⟨24, [.i 0, .own 902 2 q (decide (q = 0))], false, 0⟩), (902, ⟨35, P.flatMap xT, decide (q = 0), 2⟩), (12, ⟨35, [.i ft, .own 904 4 no (decide (no = 0))], false, 0⟩), (904, ⟨47, o.flatMap vG, decide (no = 0), 4⟩), (17, ⟨147, [.i pi, .i po], false, 0⟩), (20, ⟨140, [.i (lt' : Int)], false, 0⟩)], []⟩) q8 ?_
       clear xR zT hmg
       by_cases wR : 400 < a' + 1 ∨ 60 < lt' + 1
       ·rw [if_pos wR] at zv
        rw [← zv] at vf; simp only at vf; rw [if_pos zj] at vf; obtain ⟨rfl, _⟩ := Prod.mk.inj vf; clear zv
        rcases (show 400 < a' + 1 ∨ (¬ 400 < a' + 1 ∧ 60 < lt' + 1) by omega) with h | h
        ·skip
         refine xd ?_; refine W48 ?_; refine W9 ?_; refine W11 ?_; exact ⟨[_, _], zU1, zU8, zU0⟩
        skip; refine xd ?_; refine W48 ?_; refine W9 ?_; refine W11 ?_; exact ⟨[_, _], zU1, zU8, zU0⟩
       rw [if_neg wR] at zv; refine xd ?_; refine W48 ?_; refine g0 ?_
       iterate 29 refine Dv ?_
       refine W90 ?_; refine W0 ?_; refine W34 ?_; refine zC ?_; refine ⟨_, ?_, ⟨i + 1, L' ++ [Z], a' + 1, o ++ [⟨pi, po, (w : Int), (lt' : Int)⟩], by omega, zv, um, fun j' d' hj' => ?_, by rw [length_append, xn]; omega, by rw [length_append, xn]; simp only [length_cons, length_nil]; omega, by omega, by rw [length_append, vO]; simp only [length_cons, length_nil]; omega, rfl⟩, ?_⟩
       ·rw [jn1]
        simp only [flatMap_append, flatMap_cons, flatMap_nil, append_nil, length_append, length_cons, length_nil, zero_add, map_append, map_cons, map_nil, xn, vO]; exact q8
       ·by_cases vJ : j' < L'.length
        ·grind
        rw [List.getElem?_append_right zg] at hj'
        cases hjj : j' - L'.length with
        | succ z => rw [hjj] at hj'; simp at hj'
        | zero =>
         rw [hjj] at hj'; simp at hj'; subst hj'; refine ⟨hZl, fun u hu => ?_⟩; exact up9 (hZB u hu) zg
       exact zM
      rw [if_neg hix] at hmg; have had : lAd L' Z = L' := by unfold lAd; rw [if_neg (by rw [xn]; exact hix)]
      rw [had, xn] at zv; obtain ⟨y, hy⟩ : ∃ y, lIx L' Z = y := ⟨_, rfl⟩; rw [hy] at hmg zv
      by_cases wR : 400 < a' + 1
      ·rw [if_pos (.inl wR)] at zv
       rw [← zv] at vf; simp only at vf; rw [if_pos zj] at vf; obtain ⟨rfl, _⟩ := Prod.mk.inj vf; clear zv; refine W92 ?_; refine zC ?_; refine AL.rd rfl rfl (bv wV underlying143 yr rfl rfl (fun g a w hs => wW (hs.ev rfl)) zm) ?_; refine qa xR ?_; refine qC0 ?_; refine qA hkz ?_; refine jN9 ?_; refine jq3 ?_
       iterate 27 refine Dv ?_
       refine W11 ?_; exact ⟨[_, _], zU1, zU8, zU0⟩
      rw [if_neg zg] at zv; refine W92 ?_; refine zC ?_; refine AL.rd rfl rfl (bv wV underlying143 yr rfl rfl (fun g a w hs => wW (hs.ev rfl)) zm) ?_; refine qa xR ?_; refine qC0 ?_; refine qA hkz ?_; refine jN9 ?_; refine jq3 ?_
      iterate 37 refine Dv ?_
      refine W90 ?_; refine W0 ?_; refine W34 ?_; refine zC ?_; refine ⟨_, ?_, ⟨i + 1, L', a' + 1, o ++ [⟨pi, po, (w : Int), (y : Int)⟩], by omega, zv, wC, hBd, by omega, by omega, by omega, by rw [length_append, vO]; simp only [length_cons, length_nil]; omega, rfl⟩, ?_⟩
      ·simp only [flatMap_append, flatMap_cons, flatMap_nil, append_nil, length_append, length_cons, length_nil, zero_add, xn, vO]
       exact q8
      exact zM
     obtain rfl : i = la := by omega
     rw [List.drop_eq_nil_of_le zg, yC] at zv; rw [← zv] at vf; simp only at vf; rw [if_neg zx] at vf; refine zY ?_; refine qs 12 1 32 (o.map arD) rfl rfl rfl zj rfl rfl (by rw [length_map, vO]) zg (vx (enc := arD) (sz := 4) (l := o) (fun _ => rfl) rfl) ?_; refine zW ?_; refine q9 rfl (zN (vs := [(0, _)]) (zs := [.i 0, .nil]) 152 underlying22 xD rfl rfl zj zj zj rfl rfl rfl rfl zT0 rfl rfl) ?_
     refine W2 ?_; refine W39 ?_; refine Dv ?_; refine ⟨μ - 1, _, ?_, ⟨L', a', P ++ [⟨ft, o⟩], by rw [length_append, wu]; simp only [length_cons, length_nil]; omega, ?_, wC, hBd, by rw [length_append, wu, xn]; simp only [length_cons, length_nil]; omega, by omega, jz3, rfl⟩, ?_⟩
     ·simp only [flatMap_append, flatMap_cons, flatMap_nil, append_nil, length_append, length_cons, length_nil, zero_add, wu, xn]
      exact q8
     ·grind
     omega
    skip; apply qr
    (refine j6 rfl rfl rfl rfl (by (simp [S.put, S.newObj, xg, V.cs, V.itsL, V.its, yJ, qe1, q28, yI, q05, q26, wA, yG, yH, q06, q27]; done)) rfl rfl rfl zm (fun j kv hj hns => ?_); simp only [S.put, map_cons, map_nil, qy1, qg5, qg6, qp6, q87, qg7, q86])
    refine W75 ?_
    obtain ⟨x, hx, hkv⟩ : ∃ x, ks[j]? = some x ∧ kv.1 = wi ((x.i : Int), (x.o : Int)) := by
     have h1 := congrArg (fun l => l[j]?) hl2; simp only [List.getElem?_map, hj, map_some] at h1
     cases hx : ks[j]? with
     | none => rw [hx] at h1; cases h1
     | some x =>
      rw [hx] at h1; exact ⟨x, rfl, Option.some.inj h1⟩
    obtain ⟨kk, kz⟩ := kv; simp only at hkv; subst hkv; have hjM : j < nk := by rw [← hnk]; exact (List.getElem?_eq_some_iff.1 hx).1
    obtain ⟨um, gQ⟩ := ql9 uh hsj hjM hns; have qi8 := qf7 um gQ; simp only [length_append, length_cons, length_nil, hsl] at qi8
    have hA2 : A ++ [x] = (seen ++ [j]).map fun j => id (ks.getD j default) := by grind
    have hE : eV2 eL x = [.i (x.i : Int), .i (x.o : Int)] := rfl; clear xE hfd qG6 hXB vf; refine Dv ?_; refine AL.rd rfl rfl (uw (vk := .agg [.i (x.i : Int), .i (x.o : Int)]) (vv := .junk) rfl rfl hj (fun _ _ _ => jZ4 _ _) (fun _ _ _ => .junk _)) ?_; refine Dv ?_; refine q9 rfl (zp (l := [.i 0, .i 0]) 15 q58 rfl zT0 rfl rfl) ?_; refine zC ?_
    refine q9 rfl (zN (vs := [(0, _)]) (zs := [.i 0, .i 0]) 85 underlying145 q58 rfl rfl zj zj zj rfl rfl rfl rfl zT0 rfl rfl) ?_; refine qf rfl (xK underlying145 q58 rfl zj rfl rfl rfl rfl rfl rfl zT5 zT0 rfl rfl rfl rfl rfl rfl rfl zj zg zg rfl) ?_; refine W29 ?_; refine ⟨μ2 - 1, _, ?_, ⟨seen ++ [j], A ++ [x], la + 1, by omega, by simp [hsl], um, gQ, hA2, by simp [w5], rfl⟩, by omega⟩
    simp only [flatMap_append, flatMap_cons, flatMap_nil, append_nil, hE]; exact q8
   rw [qY8 zg] at vf; obtain ⟨rfl, rfl⟩ := Prod.mk.inj vf; rw [hM rfl]; refine W60 ?_; refine qs 9 1 32 (P.map stD) rfl rfl rfl zj rfl rfl (by rw [length_map, wu]) zg (vx (enc := stD) (sz := 2) (l := P) (fun _ => rfl) rfl) ?_; refine zY ?_; exact ⟨[_, _], zU1, .inr ⟨rfl, .inl rfl⟩, zU0⟩
 have hE : ceE m = zn m := by unfold ceE; rw [if_pos h0]
 rw [qd7 h0] at wT; rw [hE]; obtain ⟨e, he⟩ : ∃ e, zn m = e := ⟨_, rfl⟩; rw [he] at wT h0 ⊢; obtain ⟨st, sts⟩ := m; refine qx 156 fun w0 out wK => ?_; refine W96 ?_; refine qa wT ?_; refine zQ ?_; refine W27 ?_; refine ve ?_; refine W14 ?_; exact ⟨[_, _], zU1, .inl ⟨h0, rfl⟩, zU0⟩
end Go.Proofs.YthiknkcigcglkaaGreatDoor
