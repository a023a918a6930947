/- Part 34 of what the law SameSames rests on. -/
import Derived.Test.YthiknkcigcglkaaGreatDoorPkSS30
import Derived.Test.YthiknkcigcglkaaGreatDoorPkSS33
namespace Go.Proofs.YthiknkcigcglkaaGreatDoor
open Go.RowKit
open Go.Proofs.Tryz
open Bool (and_eq_true)
open List (length_map)
set_option linter.unusedSimpArgs false
set_option linter.unusedVariables false
set_option maxRecDepth 100000
set_option maxHeartbeats 8000000
variable {a b m : zr} {k n : Nat}
theorem j06 (h : emE m ≠ 0) : emR m = ⟨0, []⟩ := by unfold emR; rw [if_neg h]
theorem jW0 (m : zr) : Fn prog 52 [mV m] (fun v => v = .tup [mV (emR m), .i (emE m)]) := (jf6 m).wkS (qo9 j06)
theorem jK2 (m : zr) : Fn prog 25 [mV m] (fun v => v = .tup [mV (emR m), .i (emE m)]) := (j33 m).wkS (qo9 j06)
noncomputable def nfE (m : zr) : Int := if emE m ≠ 0 then emE m else if ceE (emR m) ≠ 0 then ceE (emR m) else leE (ceM (emR m))
noncomputable def nfM (m : zr) : zr := if nfE m ≠ 0 then ⟨0, []⟩ else leM (ceM (emR m))
noncomputable def nfV (m : zr) : Int := if nfE m ≠ 0 then 0 else leV (ceM (emR m))
theorem j97 (h : nfE m = 0) : emE m = 0 ∧ ceE (emR m) = 0 ∧ leE (ceM (emR m)) = 0 ∧ nfM m = leM (ceM (emR m)) ∧ nfV m = leV (ceM (emR m)) := by
 have h2 : nfM m = leM (ceM (emR m)) ∧ nfV m = leV (ceM (emR m)) := by
  unfold nfM nfV; rw [if_neg (by simp [h]), if_neg (by simp [h])]; exact ⟨rfl, rfl⟩
 unfold nfE at h
 by_cases e1 : emE m = 0
 ·rw [if_neg (by simp [e1])] at h
  by_cases e2 : ceE (emR m) = 0
  ·rw [if_neg (by simp [e2])] at h
   exact ⟨e1, e2, h, h2⟩
  rw [if_pos e2] at h; exact absurd h e2
 rw [if_pos e1] at h; exact absurd h e1
theorem j98 (h : nfE m ≠ 0) : nfM m = ⟨0, []⟩ ∧ nfV m = 0 := by
 unfold nfM nfV; rw [if_pos h, if_pos h]; exact ⟨rfl, rfl⟩
theorem j99 (m : zr) : FnP uj prog 24 [mV m] (fun v => nfE m ≠ 0 ∧ v = .tup [.agg [.i 0, .nil, .i 0], .i (nfE m)] ∨ nfE m = 0 ∧ v = .tup [.agg [.i (nfM m).start, .d (zq (nfM m).states), .i (nfV m)], .i 0]) := by
 have h1 := jW0 m; have h2 := j34 (emR m); have h3 := jz7 (ceM (emR m)); obtain ⟨N, hN⟩ : ∃ N, nfE m = N := ⟨_, rfl⟩; have hN2 := hN; unfold nfE at hN2
 have hM : N = 0 → nfM m = leM (ceM (emR m)) ∧ nfV m = leV (ceM (emR m)) := fun e => (j97 (hN.trans e)).2.2.2
 rw [hN]; clear hN; generalize nfM m = M at hM ⊢; generalize nfV m = y at hM ⊢; generalize emE m = ae at h1 hN2; generalize emR m = A at h1 h2 h3 hN2 hM; generalize ceE A = be at h2 hN2; generalize ceM A = B at h2 h3 hN2 hM; generalize leE B = ce at h3 hN2; generalize leM B = C at h3 hM; generalize leV B = cv at h3 hM; obtain ⟨a, al⟩ := A; obtain ⟨b, bs⟩ := B; obtain ⟨c, cs⟩ := C
 obtain ⟨st, sts⟩ := m; refine qx 36 fun w0 out wK => ?_; refine W7 ?_; refine q9 rfl (zp (l := [.i 0, .nil, .i 0]) 2 gZ rfl rfl rfl rfl) ?_; refine zW ?_; refine qa h1 ?_; refine W47 ?_; refine q9 rfl (zp (l := [.i 0, .nil]) 4 xN rfl rfl rfl rfl) ?_; refine zY ?_; refine qe rfl rfl (qw1 rfl rfl rfl) ?_; refine Dv ?_; refine qz rfl (fun e => ?_) (fun e => ?_)
 ·subst e
  rw [if_neg zx] at hN2; refine zR ?_; refine qA h2 ?_; refine qf0 ?_; refine W57 ?_; refine qz rfl (fun e => ?_) (fun e => ?_)
  ·rw [if_pos e] at hN2
   subst hN2; apply qr; refine jp6 ?_; exact ⟨[_, _], zU6, .inl ⟨e, rfl⟩, zU0⟩
  obtain rfl : be = 0 := by simpa using e
  rw [if_neg e] at hN2; subst hN2; refine xd ?_; refine qA h3 ?_; refine qk6 ?_; refine W57 ?_; refine qz rfl (fun e => ?_) (fun e => ?_)
  ·skip
   apply qr; refine jp6 ?_; exact ⟨[_, _], zU6, .inl ⟨e, rfl⟩, zU0⟩
  obtain rfl : ce = 0 := by simpa using e
  obtain ⟨rfl, rfl⟩ := hM rfl; refine zW ?_; refine qe rfl rfl (xI (vs := [(0, _), (1, _)]) (zs := [.i 0, .nil, .i 0]) jK6 gZ rfl rfl rfl rfl) ?_; refine zW ?_; exact ⟨[_, _], zU6, .inr ⟨by simp, rfl⟩, zU0⟩
 rw [if_pos e] at hN2; subst hN2; refine xB ?_; refine jp6 ?_; exact ⟨[_, _], zU6, .inl ⟨e, rfl⟩, zU0⟩
theorem qv6 (m : zr) (h : nfE m ≠ 0) : FnP uj prog 24 [mV m] (fun v => v = .tup [.agg [.i 0, .nil, .i 0], .i (nfE m)]) := (j99 m).wkS fun v hv hp => ⟨v, (hv.resolve_right fun g => h g.1).2, hp, fun _ _ _ _ g => g⟩
theorem qv7 (m : zr) (h : nfE m = 0) : FnP uj prog 24 [mV m] (fun v => v = .tup [.agg [.i (nfM m).start, .d (zq (nfM m).states), .i (nfV m)], .i 0]) := (j99 m).wkS fun v hv hp => ⟨v, (hv.resolve_left fun g => g.1 h).2, hp, fun _ _ _ _ g => g⟩
theorem jg7 (m : zr) : FnP uj prog 10 [mV m] (fun v => qD5 (nfE m) (nfM m) (nfV m) v) := by
 by_cases h : nfE m = 0
 ·have h1 := qv7 m h
  rw [h]; obtain ⟨⟨c, cs⟩, hC⟩ : ∃ X, nfM m = X := ⟨_, rfl⟩; rw [hC] at h1 ⊢; clear h hC; obtain ⟨st, sts⟩ := m; refine qx 17 fun w0 out wK => ?_; refine W64 ?_; refine qA h1 ?_; refine W47 ?_; refine q9 rfl (zp (l := [.i 0, .nil, .i 0]) 5 gZ rfl rfl rfl rfl) ?_; refine W81 ?_; refine qP (N := ?N271) (l := #[false, false, false, false, false, false, false, false]) 8 zh rfl rfl ?_ ?_
  rotate_left
  refine ql (i := 0) rfl rfl rfl (fun _ _ h => h) zh rfl (xe underlying53 rfl rfl rfl xN zj rfl) ?_; refine ql (i := 2) rfl rfl rfl (fun _ _ h => h) zh rfl (xe underlying53 rfl rfl rfl zz zj rfl) ?_; refine jp1 ?_; refine qy (i := 1) (j := 3) zh ?_ ?_
  ·refine wg ?_
   refine ST.rd rfl (vQ underlying24 rfl xN rfl rfl rfl rfl rfl rfl) ?_; refine qy (i := 3) (j := 5) zh ?_ ?_
   ·refine wg ?_
    refine ST.rd rfl (xO underlying3 rfl rfl rfl rfl rfl rfl) ?_; refine qp (i := 5) zh ?_; refine W12 ?_; refine W35 ?_; refine qL zh ?_
    show Less _ _
    exact qW _
   refine W12 ?_; refine W80 ?_; refine ST.rd rfl (xO underlying3 rfl rfl rfl rfl rfl rfl) ?_; refine W35 ?_; refine qL zh ?_
   show Less _ _
   refine W1 ?_; exact qC
  ·refine wg ?_
   refine ST.rd rfl (xO underlying3 rfl rfl rfl rfl rfl rfl) ?_; refine qp (i := 1) zh ?_; refine wg ?_; refine ST.rd rfl (vQ underlying24 rfl xN rfl rfl rfl rfl rfl rfl) ?_; refine qp (i := 5) zh ?_; refine W12 ?_; refine W35 ?_; refine qL zh ?_
   show Less _ _
   refine W1 ?_; exact qC
  refine W1 ?_; refine jc1 ?_; exact ⟨[_, _, _], zU3, .inr ⟨rfl, rfl⟩, zU0⟩
 have h1 := qv6 m h; obtain ⟨e, he⟩ : ∃ e, nfE m = e := ⟨_, rfl⟩; rw [he] at h h1 ⊢; obtain ⟨st, sts⟩ := m; refine qx 17 fun w0 out wK => ?_; refine W64 ?_; refine qA h1 ?_; refine W47 ?_; refine q9 rfl (zp (l := [.i 0, .nil, .i 0]) 5 gZ rfl rfl rfl rfl) ?_; refine W81 ?_; refine qP (N := ?N273) (l := #[false, false, false, false, false, false, false, false]) 8 zh rfl rfl ?_ ?_
 rotate_left
 refine ql (i := 0) rfl rfl rfl (fun _ _ h => h) zh rfl (xe underlying53 rfl rfl rfl xN zj rfl) ?_; refine ql (i := 2) rfl rfl rfl (fun _ _ h => h) zh rfl (xe underlying53 rfl rfl rfl zz zj rfl) ?_; refine jp1 ?_; refine qy (i := 1) (j := 3) zh ?_ ?_
 ·refine wg ?_
  refine ST.rd rfl (vQ underlying24 rfl xN rfl rfl rfl rfl rfl rfl) ?_; refine qy (i := 3) (j := 5) zh ?_ ?_
  ·refine wg ?_
   refine ST.rd rfl (xO underlying3 rfl rfl rfl rfl rfl rfl) ?_; refine qp (i := 5) zh ?_; refine W12 ?_; refine W35 ?_; refine qL zh ?_
   show Less _ _
   exact qW _
  refine W12 ?_; refine W80 ?_; refine ST.rd rfl (xO underlying3 rfl rfl rfl rfl rfl rfl) ?_; refine W35 ?_; refine qL zh ?_
  show Less _ _
  refine W1 ?_; exact qC
 ·refine wg ?_
  refine ST.rd rfl (xO underlying3 rfl rfl rfl rfl rfl rfl) ?_; refine qp (i := 1) zh ?_; refine wg ?_; refine ST.rd rfl (vQ underlying24 rfl xN rfl rfl rfl rfl rfl rfl) ?_; refine qp (i := 5) zh ?_; refine W12 ?_; refine W35 ?_; refine qL zh ?_
  show Less _ _
  refine W1 ?_; exact qC
 refine W1 ?_; refine jc1 ?_; exact ⟨[_, _, _], zU3, .inl ⟨h, rfl⟩, zU0⟩
theorem jn5 (m : zr) : FnP uj prog 10 [mV m] (fun v => v = .tup [mV (nfM m), .i (nfV m), .i (nfE m)]) := (jg7 m).wkS (qd3 fun h => j98 h)
theorem qb5 (m : zr) : Fn prog 11 [mV m] (fun v => v = .tup [mV (nfM m), .i (nfV m), .i (nfE m)]) := by
 have h1 := jK2 m; have h2 := j05 (emR m); have h3 := jg0 (ceM (emR m)); obtain ⟨N, hN⟩ : ∃ N, nfE m = N := ⟨_, rfl⟩; have hN2 := hN; unfold nfE at hN2
 have hM : N = 0 → nfM m = leM (ceM (emR m)) ∧ nfV m = leV (ceM (emR m)) := fun e => (j97 (hN.trans e)).2.2.2
 have hF : N ≠ 0 → nfM m = ⟨0, []⟩ ∧ nfV m = 0 := fun e => j98 (by rwa [hN])
 rw [hN]; clear hN; generalize nfM m = M at hM hF ⊢; generalize nfV m = y at hM hF ⊢; generalize emE m = ae at h1 hN2; generalize emR m = A at h1 h2 h3 hN2 hM; generalize ceE A = be at h2 hN2; generalize ceM A = B at h2 h3 hN2 hM; have hL := @qF9 B; generalize leE B = ce at h3 hN2 hL; generalize leM B = C at h3 hM hL; generalize leV B = cv at h3 hM hL; obtain ⟨a, al⟩ := A; obtain ⟨b, bs⟩ := B
 obtain ⟨c, cs⟩ := C; obtain ⟨st, sts⟩ := m; refine Fn.wkS (post := fun v => N ≠ 0 ∧ v = .tup [.agg [.i 0, .nil], .i 0, .i N] ∨ v = .tup [mV M, .i y, .i N]) ?_ fun v h g => ?_
 ·refine Fn.intro (n := 38) ⟨func11, rfl, rfl, rfl, rfl⟩ zT8 zx fun w0 out => ?_
  refine W64 ?_; refine qa h1 ?_; refine W78 ?_; refine zY ?_; refine W57 ?_; refine qz rfl (fun e => ?_) (fun e => ?_)
  ·rw [if_pos e] at hN2
   subst hN2; apply qr; refine W24 ?_; exact ⟨[_, _, _], zU3, .inl ⟨e, rfl⟩, zU0⟩
  obtain rfl : ae = 0 := by simpa using e
  rw [if_neg e] at hN2; refine xd ?_; refine qa h2 ?_; refine W47 ?_; refine q9 rfl (zp (l := [.i 0, .nil]) 7 xN rfl rfl rfl rfl) ?_; refine zY ?_; refine W57 ?_; refine qz rfl (fun e => ?_) (fun e => ?_)
  ·rw [if_pos e] at hN2
   subst hN2; apply qr; refine W24 ?_; exact ⟨[_, _, _], zU3, .inl ⟨e, rfl⟩, zU0⟩
  obtain rfl : be = 0 := by simpa using e
  rw [if_neg e] at hN2; subst hN2
  have hC : (⟨c, cs⟩ : zr) = M ∧ cv = y := by
   by_cases e : ce = 0
   ·exact ⟨(hM e).1.symm, (hM e).2.symm⟩
   exact ⟨(hL e).1.trans (hF e).1.symm, (hL e).2.trans (hF e).2.symm⟩
  obtain ⟨rfl, rfl⟩ := hC; refine xd ?_; refine qa h3 ?_; refine W25 ?_; refine q9 rfl (zp (l := [.i 0, .nil]) 8 xN rfl rfl rfl rfl) ?_; refine xS ?_; exact ⟨[_, _, _], zU3, .inr rfl, zU0⟩
 by_cases e : N = 0
 ·exact ⟨v, h.resolve_left fun k => k.1 e, g, fun _ _ _ _ k => k⟩
 rcases h with h | h
 ·obtain ⟨rfl, rfl⟩ := hF e
  rw [h.2]; exact ⟨_, rfl, by simp [V.pure, V.has, V.hasL], qU4 (q17 0)⟩
 exact ⟨v, h, g, fun _ _ _ _ k => k⟩
theorem k93 (a b : Ar) (w : World) : (Op.equalIn 10000 47 (.agg #[.int .i64 a.i, .int .i64 a.o, .int .i64 a.w, .int .i64 a.t]) (.agg #[.int .i64 b.i, .int .i64 b.o, .int .i64 b.w, .int .i64 b.t])).run prog w = .ok (decide (a.i = b.i) && decide (a.o = b.o) && decide (a.w = b.w) && decide (a.t = b.t)) w := by
 simp [go_sem]
 by_cases h1 : a.i = b.i <;> by_cases h2 : a.o = b.o <;> by_cases h3 : a.w = b.w <;> by_cases h4 : a.t = b.t <;> simp [h1, h2, h3, h4]
theorem qr4 {c : Cx} {s : S} {o : Oper} {t' : TypeId} {x y : Operand} {a b : Ar} (hP : c.P = prog) (ho : o.op = .binOp .neq 47 x y t') (hx : s.ev x = some (.agg ((arD a).map V.d))) (hy : s.ev y = some (.agg ((arD b).map V.d))) (h : a ≠ b) : RP c o s (.b true) := by
 have h2 : (decide (a.i = b.i) && decide (a.o = b.o) && decide (a.w = b.w) && decide (a.t = b.t)) = false := by
  rw [Bool.eq_false_iff]; intro h3; simp only [and_eq_true, decide_eq_true_eq] at h3; obtain ⟨ai, ao, aw, at'⟩ := a; obtain ⟨bi, bo, bw, bt⟩ := b; simp only at h3; obtain ⟨⟨⟨rfl, rfl⟩, rfl⟩, rfl⟩ := h3; exact h rfl
 refine qe6 [.int .i64 a.i, .int .i64 a.o, .int .i64 a.w, .int .i64 a.t] [.int .i64 b.i, .int .i64 b.o, .int .i64 b.w, .int .i64 b.t] ho hx hy (fun w => ?_) (fun w => ?_)
 ·rw [hP]; simp [go_sem]
 rw [hP]; have h4 := k93 a b w; rw [h2] at h4; have h5 : (Op.equal 47 (.agg [.int .i64 a.i, .int .i64 a.o, .int .i64 a.w, .int .i64 a.t].toArray) (.agg [.int .i64 b.i, .int .i64 b.o, .int .i64 b.w, .int .i64 b.t].toArray)).run prog w = _ := h4; simp only [binOp, Sem.run_bind, h5, Result.andThen_ok]; rfl
theorem q99 {α : Type} {l m : List α} {x y : α} (h : l.take k = m.take k) (hx : l[k]? = some x) (hy : m[k]? = some y) (hxy : x = y) : l.take (k + 1) = m.take (k + 1) := by rw [x5 hx, x5 hy, h, hxy]
theorem qa0 {α : Type} {l m : List α} {x y : α} (hx : l[k]? = some x) (hy : m[k]? = some y) (hxy : x ≠ y) : l ≠ m := by
 rintro rfl; rw [hx] at hy; exact hxy (Option.some.inj hy)
theorem qj5 {α : Type} {l m : List α} (h : l.take n = m.take n) (h1 : l.length ≤ n) (h2 : m.length ≤ n) : l = m := by rwa [List.take_of_length_le h1, List.take_of_length_le h2] at h
theorem jn6 (l m : List Ar) (b : Bool) (hb : b = true ↔ l = m) : Fn prog 65 [.d (zU l), .d (zU m)] (fun v => v = .b b) := by
 refine Fn.sl 0 rfl fun hbd => ?_; obtain ⟨n, hn⟩ : ∃ n, l.length = n := ⟨_, rfl⟩; obtain ⟨n2, hn2⟩ : ∃ n, m.length = n := ⟨_, rfl⟩; rw [length_map, hn] at hbd
 have hF := fun h : l ≠ m => Bool.eq_false_iff.2 fun e => h (hb.1 e)
 refine qc 26 fun w0 out => ?_; refine xX ?_; refine W57 ?_; refine qz rfl (fun hnn => ?_) (fun hnn => ?_)
 ·cases hF (by rintro rfl; omega)
  refine zW ?_; exact ⟨[_], ⟨rfl, trivial⟩, rfl, zU2⟩
 obtain rfl : n = n2 := by omega
 refine xB ?_; refine qb (fun s' => ∃ k : Nat, k ≤ n ∧ l.take k = m.take k ∧ s' = ⟨26, [(0, .d (zU l)), (1, .d (zU m)), (12, .i n), (13, .i k)], [], []⟩) (fun s' => n - s'.nat 13) ⟨_, ?_, 0, by omega, rfl, rfl⟩ ?_
 ·exact q8
 rintro s' ⟨k, hk, htk, rfl⟩; apply qr; refine jc5 ?_; apply qg; refine qz rfl (fun zk => ?_) (fun zk => ?_)
 ·obtain ⟨x, hx⟩ := zl hn (by omega : k < n)
  obtain ⟨y, hy⟩ := zl hn2 (by omega : k < n)
  by_cases hxy : x = y
  ·refine x8 ?_
   refine W22 ?_; refine xB ?_; refine qw rfl rfl rfl (fun _ _ h => h) (qa9 rfl rfl rfl rfl (by first | assumption | rfl)) ?_; refine W16 ?_; refine zY ?_; refine ⟨_, ?_, ⟨k + 1, by omega, q99 htk hx hy hxy, rfl⟩, ?_⟩
   ·exact q8
   exact zM
  cases hF (qa0 hx hy hxy)
  refine x8 ?_; refine W22 ?_; refine xB ?_; refine qw rfl rfl rfl (fun _ _ h => h) (qr4 rfl rfl rfl rfl (by first | assumption | rfl)) ?_; refine qk7 ?_; exact ⟨[_], ⟨rfl, trivial⟩, rfl, zU2⟩
 cases hb.2 (qj5 htk zg zg)
 refine zC ?_; exact ⟨[_], ⟨rfl, trivial⟩, rfl, zU2⟩
theorem j07 (l m : List Ar) (b : Bool) (hb : b = true ↔ l = m) : Fn prog 51 [.d (zU l), .d (zU m)] (fun v => v = .b b) := by
 refine Fn.sl 0 rfl fun hbd => ?_; obtain ⟨n, hn⟩ : ∃ n, l.length = n := ⟨_, rfl⟩; obtain ⟨n2, hn2⟩ : ∃ n, m.length = n := ⟨_, rfl⟩; rw [length_map, hn] at hbd
 have hF := fun h : l ≠ m => Bool.eq_false_iff.2 fun e => h (hb.1 e)
 refine qc 26 fun w0 out => ?_; refine xX ?_; refine W57 ?_; refine qz rfl (fun hnn => ?_) (fun hnn => ?_)
 ·cases hF (by rintro rfl; omega)
  refine zW ?_; exact ⟨[_], ⟨rfl, trivial⟩, rfl, zU2⟩
 obtain rfl : n = n2 := by omega
 refine zY ?_; refine qb (fun s' => ∃ k : Nat, k ≤ n ∧ l.take k = m.take k ∧ s' = ⟨26, [(0, .d (zU l)), (1, .d (zU m)), (5, .i k)], [], []⟩) (fun s' => n - s'.nat 5) ⟨_, ?_, 0, by omega, rfl, rfl⟩ ?_
 ·exact q8
 rintro s' ⟨k, hk, htk, rfl⟩; refine zC ?_; refine jc5 ?_; refine qz rfl (fun zk => ?_) (fun zk => ?_)
 ·obtain ⟨x, hx⟩ := zl hn (by omega : k < n)
  obtain ⟨y, hy⟩ := zl hn2 (by omega : k < n)
  by_cases hxy : x = y
  ·refine xd ?_
   refine W22 ?_; refine xB ?_; refine qw rfl rfl rfl (fun _ _ h => h) (qa9 rfl rfl rfl rfl (by first | assumption | rfl)) ?_; refine W44 ?_; refine ⟨_, ?_, ⟨k + 1, by omega, q99 htk hx hy hxy, rfl⟩, ?_⟩
   ·exact q8
   exact zM
  cases hF (qa0 hx hy hxy)
  refine xd ?_; refine W22 ?_; refine xB ?_; refine qw rfl rfl rfl (fun _ _ h => h) (qr4 rfl rfl rfl rfl (by first | assumption | rfl)) ?_; refine qk7 ?_; exact ⟨[_], ⟨rfl, trivial⟩, rfl, zU2⟩
 cases hb.2 (qj5 htk zg zg)
 refine zC ?_; exact ⟨[_], ⟨rfl, trivial⟩, rfl, zU2⟩
theorem jg8 {a b : St} : a = b ↔ a.fin = b.fin ∧ a.arcs = b.arcs := by
 obtain ⟨f, A⟩ := a; obtain ⟨g, B⟩ := b; simp
theorem jA8 (a b : St) (x : Bool) (hx : x = true ↔ a = b) : Fn prog 29 [.agg [.i a.fin, .d (zU a.arcs)], .agg [.i b.fin, .d (zU b.arcs)]] (fun v => v = .b x) := by
 rw [jg8] at hx; obtain ⟨f, A⟩ := a; obtain ⟨g, B⟩ := b; simp only at hx ⊢; refine qc 17 fun w0 out => ?_; apply qg
 by_cases hf : f = g
 ·have hAB := jn6 A B x ⟨fun h => (hx.1 h).2, fun h => hx.2 ⟨hf, h⟩⟩
  refine Dv ?_; refine W6 ?_; refine xS ?_
  (refine qj (post := ?pc278) rfl rfl (zS (args := [_, _]) ?hc278 ⟨func65, rfl, rfl, rfl, rfl⟩ rfl rfl rfl rfl) ?_; (case hc278 => (exact hAB)); rintro _ rfl -; try dsimp only)
  refine zW ?_; exact ⟨[_], ⟨rfl, trivial⟩, rfl, zU2⟩
 cases Bool.eq_false_iff.2 fun h => hf (hx.1 h).1
 refine Dv ?_; refine W6 ?_; refine yB ?_; exact ⟨[_], ⟨rfl, trivial⟩, rfl, zU2⟩
theorem jn7 (l m : List St) (b : Bool) (hb : b = true ↔ l = m) : Fn prog 28 [.d (zq l), .d (zq m), .fn 29 []] (fun v => v = .b b) := by
 refine Fn.sl 0 rfl fun hbd => ?_; obtain ⟨n, hn⟩ : ∃ n, l.length = n := ⟨_, rfl⟩; obtain ⟨n2, hn2⟩ : ∃ n, m.length = n := ⟨_, rfl⟩; rw [length_map, hn] at hbd
 have hF := fun h : l ≠ m => Bool.eq_false_iff.2 fun e => h (hb.1 e)
 refine qc 32 fun w0 out => ?_; refine xX ?_; refine W57 ?_; refine qz rfl (fun hnn => ?_) (fun hnn => ?_)
 ·cases hF (by rintro rfl; omega)
  refine zW ?_; exact ⟨[_], ⟨rfl, trivial⟩, rfl, zU2⟩
 obtain rfl : n = n2 := by omega
 refine xB ?_; refine qb (fun s' => ∃ k : Nat, k ≤ n ∧ l.take k = m.take k ∧ s' = ⟨32, [(1, .d (zq m)), (2, .fn 29 []), (15, .d (zq l)), (16, .i n), (17, .i k)], [], []⟩) (fun s' => n - s'.nat 17) ⟨_, ?_, 0, by omega, rfl, rfl⟩ ?_
 ·exact q8
 rintro s' ⟨k, hk, htk, rfl⟩; apply qr; refine jc5 ?_; apply qg; refine qz rfl (fun zk => ?_) (fun zk => ?_)
 ·obtain ⟨x, hx⟩ := zl hn (by omega : k < n)
  obtain ⟨y, hy⟩ := zl hn2 (by omega : k < n); obtain ⟨v, hv⟩ : ∃ v : Bool, v = true ↔ x = y := by classical exact ⟨decide (x = y), by simp⟩
  have hs := jA8 x y v hv; have yT := q99 htk hx hy; have qq4 := qa0 hx hy; obtain ⟨xf, xa⟩ := x; obtain ⟨yf, ya⟩ := y; refine x8 ?_; refine q9 rfl (zp (l := [.i 0, .nil]) 8 xD rfl rfl rfl rfl) ?_; refine xB ?_; refine q9 rfl (zp (l := [.i 0, .nil]) 9 xD rfl rfl rfl rfl) ?_; refine zY ?_; refine qh (post := ?pc280) rfl (wf (args := [_, _]) ?hc280 ⟨func29, rfl, rfl, rfl, rfl⟩ rfl rfl rfl rfl) ?_
  case hc280 => exact hs
  rintro _ rfl -; refine zQ ?_; refine zR ?_
  cases v
  ·cases hF (qq4 fun h => by cases hv.2 h)
   refine zC ?_; exact ⟨[_], ⟨rfl, trivial⟩, rfl, zU2⟩
  refine zY ?_; refine ⟨_, ?_, ⟨k + 1, by omega, yT (hv.1 rfl), rfl⟩, ?_⟩
  ·exact q8
  exact zM
 cases hb.2 (qj5 htk zg zg)
 refine zC ?_; exact ⟨[_], ⟨rfl, trivial⟩, rfl, zU2⟩
theorem qA6 (a b : zr) (x : Bool) (hx : x = true ↔ a = b) : Fn prog 23 [mV a, mV b] (fun v => v = .b x) := by
 refine qD a 0 rfl fun hbd _ => ?_; obtain ⟨st, l⟩ := a; obtain ⟨st2, m⟩ := b; obtain ⟨n, hn⟩ : ∃ n, l.length = n := ⟨_, rfl⟩; obtain ⟨n2, hn2⟩ : ∃ n, m.length = n := ⟨_, rfl⟩; simp only [hn] at hbd; simp only [zr.mk.injEq] at hx
 have hF := fun h : ¬ (st = st2 ∧ l = m) => Bool.eq_false_iff.2 fun e => h (hx.1 e)
 by_cases hh : st = st2 ∧ n = n2
 ·obtain ⟨rfl, rfl⟩ := hh
  refine qc 56 fun w0 out => ?_; refine g7 ?_
  iterate 26 refine Dv ?_
  refine qb (fun s' => ∃ k : Nat, k ≤ n ∧ l.take k = m.take k ∧ s' = ⟨56, [(2, .ref 2 0), (3, .ref 3 0), (5, .i k)], [(2, ⟨24, [.i st, .d (zq l)], false, 0⟩), (3, ⟨24, [.i st, .d (zq m)], false, 0⟩)], []⟩) (fun s' => n - s'.nat 5) ⟨_, ?_, 0, by omega, rfl, rfl⟩ ?_
  ·exact q8
  rintro s' ⟨k, hk, htk, rfl⟩; refine zY ?_; refine jc5 ?_; refine qz rfl (fun zk => ?_) (fun zk => ?_)
  ·obtain ⟨y, hy⟩ := zl hn (by omega : k < n)
   obtain ⟨z, hz⟩ := zl hn2 (by omega : k < n); have yT := q99 htk hy hz; have qq4 := qa0 hy hz; rw [jg8] at yT; rw [Ne, jg8] at qq4; obtain ⟨yf, ya⟩ := y; obtain ⟨zf, za⟩ := z; obtain ⟨v, hv⟩ : ∃ v : Bool, v = true ↔ ya = za := by classical exact ⟨decide (ya = za), by simp⟩
   have hs := j07 ya za v hv; simp only at yT qq4
   by_cases hf : yf = zf
   ·refine W81 ?_
    refine W28 ?_; refine qm ?_
    (refine qR (post := ?pc281) rfl rfl rfl (zS (args := [_, _]) ?hc281 ⟨func51, rfl, rfl, rfl, rfl⟩ rfl rfl rfl rfl) ?_; (case hc281 => (exact hs)); rintro _ rfl -; try dsimp only)
    refine jx rfl rfl rfl rfl (qk0 rfl rfl) ?_; refine W94 ?_
    cases v
    ·cases hF fun h => qq4 (fun g => by cases hv.2 g.2) h.2
     refine zC ?_; exact ⟨[_], ⟨rfl, trivial⟩, rfl, zU2⟩
    refine x8 ?_; refine ⟨_, ?_, ⟨k + 1, by omega, yT ⟨hf, hv.1 rfl⟩, rfl⟩, ?_⟩
    ·exact q8
    exact zM
   cases hF fun h => qq4 (fun g => hf g.1) h.2
   refine W81 ?_; refine W28 ?_; refine qm ?_; refine jJ rfl rfl rfl rfl rfl ?_; refine jh rfl rfl rfl rfl rfl ?_; refine W94 ?_; refine zC ?_; exact ⟨[_], ⟨rfl, trivial⟩, rfl, zU2⟩
  cases hx.2 ⟨rfl, qj5 htk zg zg⟩
  refine zC ?_; exact ⟨[_], ⟨rfl, trivial⟩, rfl, zU2⟩
 cases hF fun h => hh ⟨h.1, by rw [← hn, ← hn2, h.2]⟩
 refine qc 56 fun w0 out => ?_
 by_cases xR : st = st2
 ·have hnn : n ≠ n2 := fun h => hh ⟨xR, h⟩
  refine g7 ?_; refine gC ?_; exact ⟨[_], ⟨rfl, trivial⟩, rfl, zU2⟩
 refine g7 ?_; refine gC ?_; exact ⟨[_], ⟨rfl, trivial⟩, rfl, zU2⟩
noncomputable def alE (a b : zr) : Int := if zn a ≠ 0 then zn a else if zn b ≠ 0 then zn b else if nfE a ≠ 0 then nfE a else nfE b
noncomputable def alX (a b : zr) : Bool := by classical exact decide (alE a b = 0 ∧ nfV a = nfV b ∧ nfM a = nfM b)
theorem ja0 (h : alE a b ≠ 0) : alX a b = false := by simp [alX, h]
theorem ja1 (h : alE a b = 0) : alX a b = true ↔ nfV a = nfV b ∧ nfM a = nfM b := by simp [alX, h]
theorem jK3 (a b : zr) : FnP uj prog 12 [mV a, mV b] (fun v => v = .tup [.b (alX a b), .i (alE a b)]) := by
 have h1 := we a; have h2 := we b; have h3 := qv7 a; have h4 := qv7 b; have g3 := qv6 a; have g4 := qv6 b; obtain ⟨E, hE⟩ : ∃ E, alE a b = E := ⟨_, rfl⟩; obtain ⟨X, hX⟩ : ∃ X, alX a b = X := ⟨_, rfl⟩
 have hI := fun h => ja1 (a := a) (b := b) h
 have hN := fun h => ja0 (a := a) (b := b) h
 have hE2 := hE; unfold alE at hE2; rw [hE, hX] at hI hN ⊢; clear hE hX; generalize zn a = x at h1 hE2; generalize zn b = y at h2 hE2; generalize nfE a = z at h3 g3 hE2; generalize nfE b = u at h4 g4 hE2; generalize nfM a = A at h3 hI; generalize nfV a = a3 at h3 hI; generalize nfM b = B at h4 hI; generalize nfV b = b3 at h4 hI; obtain ⟨a1, a2⟩ := A; obtain ⟨b1, b2⟩ := B; obtain ⟨st, sts⟩ := a
 obtain ⟨st2, sts2⟩ := b; rw [zr.mk.injEq] at hI; refine qx 60 fun w0 out wK => ?_; refine g7 ?_; refine zY ?_; refine qa h1 ?_; refine W25 ?_; refine W57 ?_; refine qz rfl (fun e => ?_) (fun e => ?_)
 ·rw [if_pos e] at hE2
  subst hE2; rw [hN e]; refine zY ?_; exact ⟨[_, _], zU4, rfl, zU0⟩
 obtain rfl : x = 0 := by simpa using e
 rw [if_neg e] at hE2; refine zW ?_; refine qa h2 ?_; refine W25 ?_; refine W57 ?_; refine qz rfl (fun e => ?_) (fun e => ?_)
 ·rw [if_pos e] at hE2
  subst hE2; rw [hN e]; refine zY ?_; exact ⟨[_, _], zU4, rfl, zU0⟩
 obtain rfl : y = 0 := by simpa using e
 rw [if_neg e] at hE2
 by_cases e3 : z = 0
 ·subst e3
  have h3 := h3 rfl; rw [if_neg zx] at hE2; subst hE2; refine xd ?_; refine qA h3 ?_; refine W47 ?_; refine q9 rfl (zp (l := [.i 0, .nil, .i 0]) 8 gZ rfl rfl rfl rfl) ?_; refine W53 ?_
  by_cases e4 : u = 0
  ·subst e4
   have h4 := h4 rfl; have hI := hI rfl; refine zR ?_; refine qA h4 ?_; refine W47 ?_; refine q9 rfl (zp (l := [.i 0, .nil, .i 0]) 10 gZ rfl rfl rfl rfl) ?_; refine W53 ?_
   by_cases c1 : a3 = b3
   ·by_cases c2 : a1 = b1
    ·have h5 := jn7 a2 b2 X ⟨fun h => (hI.1 h).2.2, fun h => hI.2 ⟨c1, c2, h⟩⟩
     iterate 22 refine Dv ?_
     (refine qj (post := ?pc287) rfl rfl (zS (args := [_, _, _]) ?hc287 ⟨func28, rfl, rfl, rfl, rfl⟩ rfl rfl rfl rfl) ?_; (case hc287 => (exact h5)); rintro _ rfl -; try dsimp only)
     refine zC ?_; exact ⟨[_, _], zU4, rfl, zU0⟩
    cases Bool.eq_false_iff.2 fun h => c2 (hI.1 h).2.1
    refine bK ?_; exact ⟨[_, _], zU4, rfl, zU0⟩
   cases Bool.eq_false_iff.2 fun h => c1 (hI.1 h).1
   refine bK ?_; exact ⟨[_, _], zU4, rfl, zU0⟩
  rw [hN e4]; have g4 := g4 e4; refine zR ?_; refine qA g4 ?_; refine W47 ?_; refine q9 rfl (zp (l := [.i 0, .nil, .i 0]) 10 gZ rfl rfl rfl rfl) ?_; refine uq ?_; exact ⟨[_, _], zU4, rfl, zU0⟩
 rw [if_pos e3] at hE2; subst hE2; rw [hN e3]; have g3 := g3 e3; refine xd ?_; refine qA g3 ?_; refine W47 ?_; refine q9 rfl (zp (l := [.i 0, .nil, .i 0]) 8 gZ rfl rfl rfl rfl) ?_; refine uq ?_; exact ⟨[_, _], zU4, rfl, zU0⟩
theorem jA9 (a b : zr) : Fn prog 13 [mV a, mV b] (fun v => v = .tup [.b (alX a b), .i (alE a b)]) := by
 have h1 := wz a; have h2 := wz b; have h3 := qb5 a; have h4 := qb5 b; obtain ⟨E, hE⟩ : ∃ E, alE a b = E := ⟨_, rfl⟩; obtain ⟨X, hX⟩ : ∃ X, alX a b = X := ⟨_, rfl⟩
 have hI := fun h => ja1 (a := a) (b := b) h
 have hN := fun h => ja0 (a := a) (b := b) h
 have hE2 := hE; unfold alE at hE2; rw [hE, hX] at hI hN ⊢; clear hE hX; generalize zn a = x at h1 hE2; generalize zn b = y at h2 hE2; generalize nfE a = z at h3 hE2; generalize nfE b = u at h4 hE2; generalize nfM a = A at h3 hI; generalize nfV a = a3 at h3 hI; generalize nfM b = B at h4 hI; generalize nfV b = b3 at h4 hI; obtain ⟨a1, a2⟩ := A; obtain ⟨b1, b2⟩ := B; obtain ⟨st, sts⟩ := a
 obtain ⟨st2, sts2⟩ := b; have h5 := qA6 ⟨a1, a2⟩ ⟨b1, b2⟩; refine qc 46 fun w0 out => ?_; refine g7 ?_; refine zC ?_; refine qa h1 ?_; refine qs3 ?_; refine qe rfl rfl (qw1 rfl rfl rfl) ?_; refine Dv ?_; refine qz rfl (fun e => ?_) (fun e => ?_)
 ·subst e
  rw [if_neg zx] at hE2; refine zR ?_; refine qa h2 ?_; refine qs3 ?_; refine W57 ?_; refine qz rfl (fun e => ?_) (fun e => ?_)
  ·rw [if_pos e] at hE2
   subst hE2; rw [hN e]; refine zY ?_; exact ⟨[_, _], zU4, rfl, zU0⟩
  obtain rfl : y = 0 := by simpa using e
  rw [if_neg e] at hE2; refine xd ?_; refine qa h3 ?_; refine W54 ?_; refine x8 ?_; refine W57 ?_; refine qz rfl (fun e => ?_) (fun e => ?_)
  ·rw [if_pos e] at hE2
   subst hE2; rw [hN e]; refine zY ?_; exact ⟨[_, _], zU4, rfl, zU0⟩
  obtain rfl : z = 0 := by simpa using e
  rw [if_neg e] at hE2; subst hE2; refine xd ?_; refine qa h4 ?_; refine W25 ?_; refine q9 rfl (zp (l := [.i 0, .nil]) 9 xN rfl rfl rfl rfl) ?_; refine x8 ?_; refine W57 ?_; refine qz rfl (fun e => ?_) (fun e => ?_)
  ·rw [hN e]
   refine zY ?_; exact ⟨[_, _], zU4, rfl, zU0⟩
  obtain rfl : u = 0 := by simpa using e
  have hI := hI rfl
  by_cases c1 : a3 = b3
  ·have h5 := h5 X ⟨fun h => (hI.1 h).2, fun h => hI.2 ⟨c1, h⟩⟩
   refine xB ?_
   (refine qj (post := ?pc296) rfl rfl (zS (args := [_, _]) ?hc296 ⟨func23, rfl, rfl, rfl, rfl⟩ rfl rfl rfl rfl) ?_; (case hc296 => (exact h5)); rintro _ rfl -; try dsimp only)
   refine zC ?_; exact ⟨[_, _], zU4, rfl, zU0⟩
  cases Bool.eq_false_iff.2 fun h => c1 (hI.1 h).1
  refine vF ?_; exact ⟨[_, _], zU4, rfl, zU0⟩
 rw [if_pos e] at hE2; subst hE2; rw [hN e]; refine xS ?_; exact ⟨[_, _], zU4, rfl, zU0⟩
end Go.Proofs.YthiknkcigcglkaaGreatDoor
