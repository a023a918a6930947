/- Part 5 of what the law SameSames rests on. -/
import Derived.Test.YthiknkcigcglkaaGreatDoorPkSS3
namespace Go.Proofs.YthiknkcigcglkaaGreatDoor
open Go.RowKit
set_option linter.unusedSimpArgs false
set_option linter.unusedVariables false
set_option maxRecDepth 100000
set_option maxHeartbeats 8000000
structure Wp (R : Prop) : Prop where
  o : R
abbrev Z (R G : Prop) : Prop := Wp R → G
variable {G R : Prop}
theorem zW (n : R) (k : Z R G := by intro h; (iterate 4 refine Dv ?_); exact h.o) : G := k ⟨n⟩
theorem zQ (n : R) (k : Z R G := by intro h; (try dsimp only); exact h.o) : G := k ⟨n⟩
theorem zC (n : R) (k : Z R G := by intro h; (iterate 5 refine Dv ?_); exact h.o) : G := k ⟨n⟩
theorem xX (n : R) (k : Z R G := by intro h; (iterate 9 refine Dv ?_); exact h.o) : G := k ⟨n⟩
theorem xB (n : R) (k : Z R G := by intro h; (iterate 8 refine Dv ?_); exact h.o) : G := k ⟨n⟩
theorem x8 (n : R) (k : Z R G := by intro h; (iterate 7 refine Dv ?_); exact h.o) : G := k ⟨n⟩
theorem zY (n : R) (k : Z R G := by intro h; (iterate 6 refine Dv ?_); exact h.o) : G := k ⟨n⟩
theorem xd (n : R) (k : Z R G := by intro h; (iterate 3 refine Dv ?_); exact h.o) : G := k ⟨n⟩
theorem xS (n : R) (k : Z R G := by intro h; (iterate 13 refine Dv ?_); exact h.o) : G := k ⟨n⟩
theorem yB (n : R) (k : Z R G := by intro h; (iterate 18 refine Dv ?_); exact h.o) : G := k ⟨n⟩
theorem zR (n : R) (k : Z R G := by intro h; (iterate 2 refine Dv ?_); exact h.o) : G := k ⟨n⟩
theorem qa3 (n : R) (k : Z R G := by intro h; (try simp only [nd, xg, V.cs, nz, Nat.reduceAdd, nm, ns]); exact h.o) : G := k ⟨n⟩
theorem gC (n : R) (k : Z R G := by intro h; (iterate 24 refine Dv ?_); exact h.o) : G := k ⟨n⟩
theorem ve (n : R) (k : Z R G := by intro h; (iterate 10 refine Dv ?_); exact h.o) : G := k ⟨n⟩
theorem bK (n : R) (k : Z R G := by intro h; (iterate 28 refine Dv ?_); exact h.o) : G := k ⟨n⟩
theorem uq (n : R) (k : Z R G := by intro h; (iterate 15 refine Dv ?_); exact h.o) : G := k ⟨n⟩
theorem vF (n : R) (k : Z R G := by intro h; (iterate 14 refine Dv ?_); exact h.o) : G := k ⟨n⟩
theorem xu (n : R) (k : Z R G := by intro h; (iterate 11 refine Dv ?_); exact h.o) : G := k ⟨n⟩
theorem jp1 (n : R) (k : Z R G := by intro h; refine ql (i := 4) rfl rfl rfl (fun _ _ h => h) zh rfl (vC rfl rfl) ?_; exact h.o) : G := k ⟨n⟩
theorem wg (n : R) (k : Z R G := by intro h; refine jU rfl rfl rfl ?_; exact h.o) : G := k ⟨n⟩
theorem qP6 (n : R) (k : Z R G := by intro h; (try simp only [S.put, S.newObj, xg, V.cs, nz, Nat.zero_add, Nat.reduceAdd, nm, ns]); exact h.o) : G := k ⟨n⟩
theorem qe8 (n : R) (k : Z R G := by intro h; refine qe rfl rfl (xI (vs := [(0, _)]) (zs := [.i 0, .nil]) jb3 xN rfl rfl rfl rfl) ?_; exact h.o) : G := k ⟨n⟩
theorem q32 (n : R) (k : Z R G := by intro h; refine qf rfl (vA zz rfl rfl rfl rfl rfl rfl rfl zT7 rfl) ?_; exact h.o) : G := k ⟨n⟩
theorem yW (n : R) (k : Z R G := by intro h; (iterate 16 refine Dv ?_); exact h.o) : G := k ⟨n⟩
theorem g0 (n : R) (k : Z R G := by intro h; simp only [S.forget, S.put, S.newObj, zV, V.has, V.hasL, nh, zE, zA, List.map_cons, List.map_nil, List.filter_cons, List.filter_nil, Nat.reduceBNe, Nat.reduceBEq, eq_self, bne_self_eq_false,  Bool.not_true, Bool.not_false, Bool.or_false, Bool.or_true, Bool.false_or, Bool.true_or, if_true, if_false, Bool.false_eq_true, ite_true, ite_false, ↓reduceIte, beq_self_eq_true, Nat.reduceEqDiff]; exact h.o) : G := k ⟨n⟩
theorem gi (n : R) (k : Z R G := by intro h; (iterate 19 refine Dv ?_); exact h.o) : G := k ⟨n⟩
theorem uy (n : R) (k : Z R G := by intro h; (iterate 17 refine Dv ?_); exact h.o) : G := k ⟨n⟩
theorem wn (n : R) (k : Z R G := by intro h; (iterate 12 refine Dv ?_); exact h.o) : G := k ⟨n⟩
theorem gE (n : R) (k : Z R G := by intro h; (try simp only [S.put, S.newObj, xg, V.cs, nz, Nat.zero_add, Nat.reduceAdd]); exact h.o) : G := k ⟨n⟩
theorem qP7 (n : R) (k : Z R G := by intro h; refine qw rfl rfl rfl (fun _ _ h => h) (gm rfl rfl) ?_; exact h.o) : G := k ⟨n⟩
theorem bL (n : R) (k : Z R G := by intro h; (iterate 30 refine Dv ?_); exact h.o) : G := k ⟨n⟩
theorem jb5 (n : R) (k : Z R G := by intro h; refine q9 rfl (zp (l := [.i 0, .nil]) 9 xD rfl zT0 rfl rfl) ?_; exact h.o) : G := k ⟨n⟩
theorem jp2 (n : R) (k : Z R G := by intro h; refine qo rfl rfl rfl (vA qo6 rfl rfl rfl rfl rfl rfl rfl zT7 rfl) ?_; exact h.o) : G := k ⟨n⟩
theorem jp3 (n : R) (k : Z R G := by intro h; refine qo rfl rfl rfl (vA qo7 rfl rfl rfl rfl rfl rfl rfl zT7 rfl) ?_; exact h.o) : G := k ⟨n⟩
theorem qB7 (n : R) (k : Z R G := by intro h; refine qf rfl (vA qa1 rfl rfl rfl rfl rfl rfl rfl zT7 rfl) ?_; exact h.o) : G := k ⟨n⟩
theorem jb6 (n : R) (k : Z R G := by intro h; refine AL.rd rfl rfl (jb7 Tryz.underlying72 rfl rfl zm) ?_; exact h.o) : G := k ⟨n⟩
theorem qs2 (n : R) (k : Z R G := by intro h; refine qf rfl (zX qa1 rfl rfl rfl rfl rfl rfl rfl rfl zT9) ?_; exact h.o) : G := k ⟨n⟩
theorem qP8 (n : R) (k : Z R G := by intro h; (try simp only [S.put, S.newObj, List.map_cons, List.map_nil, q59, V.low, V.lowL, jp4, Nat.reduceLT, decide_true, decide_false, Bool.and_true, Bool.true_and, if_true, if_false, Bool.false_eq_true, ite_true, ite_false, ↓reduceIte, List.cons_append, List.nil_append]); exact h.o) : G := k ⟨n⟩
theorem jb8 (n : R) (k : Z R G := by intro h; simp only [qx0, Fam.objs_forget, zL, xL, nb3, nb4, Nat.reduceLT, S.forget, S.put, S.newObj, zV, V.has, V.hasL, nh, zE, zA, List.map_cons, List.map_nil, List.filter_cons, List.filter_nil, Nat.reduceBNe, Nat.reduceBEq, eq_self, bne_self_eq_false,  Bool.not_true, Bool.not_false, Bool.or_false, Bool.or_true, Bool.false_or, Bool.true_or, if_true, if_false, Bool.false_eq_true, ite_true, ite_false, ↓reduceIte, beq_self_eq_true, Nat.reduceEqDiff]; exact h.o) : G := k ⟨n⟩
theorem bM (n : R) (k : Z R G := by intro h; refine jV rfl rfl rfl rfl ?_; exact h.o) : G := k ⟨n⟩
theorem W0 (n : R) (k : Z R G := by intro h; refine qf rfl (xK Tryz.underlying33 zO rfl zj rfl rfl rfl rfl rfl rfl zT5 zT0 rfl rfl rfl rfl rfl rfl rfl zj zg zg rfl) ?_; refine g0 ?_; exact h.o) : G := k ⟨n⟩
theorem W1 (n : R) (k : Z R G := by intro h; refine qP6 ?_; (try simp only [S.dd, ddL, List.contains_cons, List.contains_nil, Nat.reduceBEq, beq_self_eq_true, Bool.or_false, Bool.or_true, Bool.false_or, Bool.true_or, Bool.or_self, if_true, if_false, Bool.false_eq_true, ↓reduceIte]); exact h.o) : G := k ⟨n⟩
theorem W2 (n : R) (k : Z R G := by intro h; refine qf rfl (xK Tryz.underlying22 xD rfl zj rfl rfl rfl rfl rfl rfl zT5 zT0 rfl rfl rfl rfl rfl rfl rfl zj zg zg rfl) ?_; refine g0 ?_; exact h.o) : G := k ⟨n⟩
theorem W3 (n : R) (k : Z R G := by intro h; apply qg; refine qi [(0, true), (1, true), (2, true), (3, true), (4, true), (5, true), (6, true), (7, true), (8, true), (9, true), (10, true), (11, true), (12, true), (13, true), (14, true), (15, true), (16, true), (17, true), (18, true), (19, true), (20, true), (21, true), (22, true), (23, true), (24, true), (25, true), (26, true), (27, true), (28, true), (29, true)] (fun i => !([] : List Nat).contains i) 30 zh zh rfl zh ?_; exact h.o) : G := k ⟨n⟩
theorem W4 (n : R) (k : Z R G := by intro h; refine qf rfl (xK Tryz.underlying42 zz rfl zj rfl rfl rfl rfl rfl rfl zT5 zT0 rfl rfl rfl rfl rfl rfl rfl zj zg zg rfl) ?_; refine g0 ?_; exact h.o) : G := k ⟨n⟩
theorem W5 (n : R) (k : Z R G := by intro h; apply qg; refine qi [(0, true), (1, true), (2, true), (3, true), (4, true), (5, true), (6, true), (7, true), (8, true), (9, true), (10, true), (11, true), (12, true), (13, true), (14, true), (15, true), (16, true), (17, true), (18, true), (19, true), (20, true), (21, true), (22, true), (23, true), (24, true), (25, true), (26, true), (27, true), (28, true), (29, true), (30, true), (31, true), (32, true), (33, true), (34, true), (35, true), (36, true), (37, true), (38, true), (39, true), (40, true), (41, true), (42, true), (43, true)] (fun i => !([] : List Nat).contains i) 44 zh zh rfl zh ?_; exact h.o) : G := k ⟨n⟩
theorem W6 (n : R) (k : Z R G := by intro h; refine q9 rfl (uV 2 rfl rfl rfl rfl rfl) ?_; refine q9 rfl (uV 3 rfl rfl rfl rfl rfl) ?_; exact h.o) : G := k ⟨n⟩
theorem W7 (n : R) (k : Z R G := by intro h; apply qr; refine q9 rfl (uV 1 rfl rfl rfl rfl rfl) ?_; exact h.o) : G := k ⟨n⟩
theorem W8 (n : R) (k : Z R G := by intro h; refine qi [(0, true), (1, true), (2, true), (3, true), (4, true), (5, true), (6, true), (7, true), (8, true), (9, true), (10, true), (11, true), (12, true), (13, true), (14, true), (15, true), (16, true), (17, true), (18, true), (19, true), (20, true), (21, true), (22, true), (23, true), (24, true), (25, true), (26, true), (27, true), (28, true), (29, true), (30, true), (31, true), (32, true), (33, true), (34, true), (35, true), (36, true), (37, true), (38, true), (39, true), (40, true), (41, true), (42, true)] (fun i => !([] : List Nat).contains i) 43 zh zh rfl zh ?_; refine xd ?_; exact h.o) : G := k ⟨n⟩
theorem W9 (n : R) (k : Z R G := by intro h; refine g0 ?_; refine gi ?_; exact h.o) : G := k ⟨n⟩
theorem W10 (n : R) (k : Z R G := by intro h; refine jM ?_; refine qa3 ?_; exact h.o) : G := k ⟨n⟩
theorem W11 (n : R) (k : Z R G := by intro h; refine qe rfl rfl (xI (vs := []) (zs := [.i 0, .nil]) jb3 xN rfl rfl rfl rfl) ?_; refine zW ?_; exact h.o) : G := k ⟨n⟩
theorem W12 (n : R) (k : Z R G := by intro h; refine wg ?_; refine jb (gY xN rfl rfl rfl rfl rfl rfl rfl rfl zT3 rfl) ?_; exact h.o) : G := k ⟨n⟩
theorem W13 (n : R) (k : Z R G := by intro h; refine qi [(0, true), (1, true), (2, true), (3, true), (4, true), (5, true), (6, true), (7, true), (8, true), (9, true), (10, true), (11, true), (12, true), (13, true), (14, true), (15, true), (16, true), (17, true), (18, true), (19, true), (20, true), (21, true), (22, true), (23, true), (24, true), (25, true), (26, true), (27, true), (28, true), (29, true), (30, true), (31, true), (32, true), (33, true), (34, true), (35, true), (36, true)] (fun i => !([] : List Nat).contains i) 37 zh zh rfl zh ?_; (iterate 37 refine Dv ?_); exact h.o) : G := k ⟨n⟩
theorem W14 (n : R) (k : Z R G := by intro h; refine qe rfl rfl (xI (vs := []) (zs := [.i 0, .nil]) jb3 xN rfl rfl rfl rfl) ?_; refine zC ?_; exact h.o) : G := k ⟨n⟩
theorem W15 (n : R) (k : Z R G := by intro h; refine j0 rfl ⟨_, rfl, rfl⟩ rfl ?_; refine j0 rfl ⟨_, rfl, rfl⟩ rfl ?_; exact h.o) : G := k ⟨n⟩
theorem W16 (n : R) (k : Z R G := by intro h; refine qV ?_; (try simp only [nd]); exact h.o) : G := k ⟨n⟩
theorem W17 (n : R) (k : Z R G := by intro h; refine qB7 ?_; refine Dv ?_; exact h.o) : G := k ⟨n⟩
theorem W18 (n : R) (k : Z R G := by intro h; refine xd ?_; refine q9 rfl (zp (l := [.b false, .b false, .b false, .b false, .b false]) 5 q80 rfl rfl rfl rfl) ?_; exact h.o) : G := k ⟨n⟩
theorem W19 (n : R) (k : Z R G := by intro h; refine qi [(0, true), (1, true), (2, true), (3, true), (4, true), (5, true), (6, true), (7, true), (8, true), (9, true), (10, true), (11, true), (12, true), (13, true), (14, true), (15, true), (16, true), (17, true), (18, true), (19, true), (20, true), (21, true), (22, true), (23, true), (24, true), (25, true), (26, true), (27, true), (28, true)] (fun i => !([] : List Nat).contains i) 29 zh zh rfl zh ?_; (iterate 29 refine Dv ?_); exact h.o) : G := k ⟨n⟩
theorem W20 (n : R) (k : Z R G := by intro h; (try simp only [S.put, zZ, List.zip_cons_cons, List.zip_nil_left, List.drop_succ_cons, List.drop_zero, List.length_cons, List.length_nil, Nat.zero_add, Nat.reduceAdd]); refine zC ?_; exact h.o) : G := k ⟨n⟩
theorem W21 (n : R) (k : Z R G := by intro h; refine qi [(0, true), (1, true), (2, true), (3, true), (4, true), (5, true), (6, true), (7, true)] (fun i => !([] : List Nat).contains i) 8 zh zh rfl zh ?_; refine xB ?_; exact h.o) : G := k ⟨n⟩
theorem W22 (n : R) (k : Z R G := by intro h; apply qg; refine qi [(0, true), (1, true), (2, true), (3, true), (4, true), (5, true), (6, true), (7, true), (8, true)] (fun i => !([] : List Nat).contains i) 9 zh zh rfl zh ?_; exact h.o) : G := k ⟨n⟩
theorem W23 (n : R) (k : Z R G := by intro h; refine jb8 ?_; refine zR ?_; exact h.o) : G := k ⟨n⟩
theorem W24 (n : R) (k : Z R G := by intro h; refine qe rfl rfl (xI (vs := []) (zs := [.i 0, .nil]) jb3 xN rfl rfl rfl rfl) ?_; refine zY ?_; exact h.o) : G := k ⟨n⟩
theorem W25 (n : R) (k : Z R G := by intro h; refine zQ ?_; refine zW ?_; exact h.o) : G := k ⟨n⟩
theorem W26 (n : R) (k : Z R G := by intro h; refine qe rfl rfl (q60 (vs := [(0, _), (1, _), (2, _)]) (zs := [.i 0, .i 0, .i 0]) Tryz.underlying134 zz qw7 rfl rfl rfl rfl) ?_; refine q9 rfl (zp (l := [.i 0, .i 0, .i 0]) 15 qw7 rfl zT0 rfl rfl) ?_; exact h.o) : G := k ⟨n⟩
theorem W27 (n : R) (k : Z R G := by intro h; refine xd ?_; refine q9 rfl (zp (l := [.b false, .b false, .b false, .b false, .b false]) 4 q80 rfl rfl rfl rfl) ?_; exact h.o) : G := k ⟨n⟩
theorem W28 (n : R) (k : Z R G := by intro h; refine qi [(0, true), (1, true), (2, true), (3, true), (4, true), (5, true), (6, true), (7, true), (8, true), (9, true), (10, true), (11, true), (12, true), (13, true), (14, true), (15, true), (16, true), (17, true), (18, true), (19, true), (20, true), (21, true), (22, true), (23, true), (24, true), (25, true), (26, false), (27, false), (28, false)] (fun i => !([] : List Nat).contains i) 29 zh zh rfl zh ?_; (iterate 26 refine Dv ?_); exact h.o) : G := k ⟨n⟩
theorem W29 (n : R) (k : Z R G := by intro h; refine g0 ?_; refine zR ?_; exact h.o) : G := k ⟨n⟩
theorem W30 (n : R) (k : Z R G := by intro h; refine g0 ?_; refine x8 ?_; exact h.o) : G := k ⟨n⟩
theorem W31 (n : R) (k : Z R G := by intro h; refine zR ?_; apply qg; exact h.o) : G := k ⟨n⟩
theorem W32 (n : R) (k : Z R G := by intro h; refine xu ?_; refine q9 rfl (zp (l := [.i 0, .i 0, .i 0, .i 0]) 10 zO rfl (by first | rfl | (simp only [S.clean, S.put, S.newObj, List.all_cons, zP, Nat.reduceLT]; simp [S.forget, V.has, V.hasL, zV, xg, V.cs, xm, xF, xG, xc, x4, zE, zA, zL, xL, xC, nb1, nb2, nb3, nb4, -List.map_set]; try omega)) rfl rfl) ?_; exact h.o) : G := k ⟨n⟩
theorem W33 (n : R) (k : Z R G := by intro h; refine ja ?_; refine qa3 ?_; exact h.o) : G := k ⟨n⟩
theorem W34 (n : R) (k : Z R G := by intro h; refine Dv ?_; refine qf rfl (vA qo7 rfl rfl rfl rfl rfl rfl rfl zT7 rfl) ?_; exact h.o) : G := k ⟨n⟩
theorem W35 (n : R) (k : Z R G := by intro h; refine ql (i := 6) rfl rfl rfl (fun _ _ h => h) zh rfl (yE rfl rfl) ?_; refine ql (i := 7) rfl rfl rfl (fun _ _ h => h) zh rfl (yE rfl rfl) ?_; exact h.o) : G := k ⟨n⟩
theorem W36 (n : R) (k : Z R G := by intro h; refine wn ?_; refine q9 rfl (zp (l := [.i 0, .nil]) 8 xD rfl (by first | rfl | (simp only [S.clean, S.put, S.newObj, List.all_cons, zP, Nat.reduceLT]; simp [S.forget, V.has, V.hasL, zV, xg, V.cs, xm, xF, xG, xc, x4, zE, zA, zL, xL, xC, nb1, nb2, nb3, nb4, -List.map_set]; try omega)) rfl rfl) ?_; exact h.o) : G := k ⟨n⟩
theorem W37 (n : R) (k : Z R G := by intro h; refine qP8 ?_; refine W10 ?_; exact h.o) : G := k ⟨n⟩
theorem W38 (n : R) (k : Z R G := by intro h; refine qi [(0, true), (1, true), (2, true), (3, true), (4, true), (5, true), (6, true), (7, true), (8, true), (9, true), (10, true), (11, true), (12, true), (13, true), (14, true), (15, true), (16, true), (17, true), (18, true), (19, true), (20, false), (21, false)] (fun i => !([] : List Nat).contains i) 22 zh zh rfl zh ?_; refine xd ?_; exact h.o) : G := k ⟨n⟩
theorem W39 (n : R) (k : Z R G := by intro h; refine Dv ?_; refine qf rfl (vA qo6 rfl rfl rfl rfl rfl rfl rfl zT7 rfl) ?_; exact h.o) : G := k ⟨n⟩
theorem W40 (n : R) (k : Z R G := by intro h; refine qi [(0, true), (1, true), (2, true), (3, true), (4, true), (5, true), (6, true), (7, true), (8, true), (9, true), (10, true), (11, true), (12, true), (13, true), (14, true), (15, true), (16, true), (17, true), (18, true), (19, true), (20, true)] (fun i => !([] : List Nat).contains i) 21 zh zh rfl zh ?_; (iterate 21 refine Dv ?_); exact h.o) : G := k ⟨n⟩
theorem W41 (n : R) (k : Z R G := by intro h; apply qr; refine q9 rfl (uV 2 rfl rfl rfl rfl rfl) ?_; exact h.o) : G := k ⟨n⟩
theorem W42 (n : R) (k : Z R G := by intro h; refine qi [(0, true), (1, true), (2, true), (3, true), (4, true), (5, true), (6, true), (7, true), (8, true), (9, true), (10, true)] (fun i => !([] : List Nat).contains i) 11 zh zh rfl zh ?_; refine zR ?_; exact h.o) : G := k ⟨n⟩
theorem W43 (n : R) (k : Z R G := by intro h; refine ql (i := 20) rfl rfl rfl (fun _ _ h => h) zh rfl (qb8 rfl rfl rfl) ?_; refine qL zh ?_; exact h.o) : G := k ⟨n⟩
theorem W44 (n : R) (k : Z R G := by intro h; refine W16 ?_; refine x8 ?_; exact h.o) : G := k ⟨n⟩
theorem W45 (n : R) (k : Z R G := by intro h; simp only [S.forget, S.put, S.newObj, List.filter_cons, Nat.reduceBNe, bne_self_eq_false, if_true, if_false, Bool.false_eq_true, ↓reduceIte, List.map_cons, hl.forgetK 901 zj, hl.forgetH 901 zj]; refine g0 ?_; exact h.o) : G := k ⟨n⟩
theorem W46 (n : R) (k : Z R G := by intro h; refine qi [(0, true), (1, true), (2, true), (3, true), (4, true), (5, true), (6, true), (7, true), (8, true), (9, true), (10, true), (11, true), (12, true), (13, true), (14, true), (15, true), (16, true)] (fun i => !([] : List Nat).contains i) 17 zh zh rfl zh ?_; refine uy ?_; exact h.o) : G := k ⟨n⟩
theorem W47 (n : R) (k : Z R G := by intro h; refine zQ ?_; refine xd ?_; exact h.o) : G := k ⟨n⟩
theorem W48 (n : R) (k : Z R G := by intro h; refine q9 rfl (zN (vs := [(0, _)]) (zs := [.nil]) 123 Tryz.underlying142 qw8 rfl rfl zj zj zj rfl rfl rfl rfl zT0 rfl rfl) ?_; refine qf rfl (xK Tryz.underlying142 qw8 rfl zj rfl rfl rfl rfl rfl rfl zT5 zT0 rfl rfl rfl rfl rfl rfl rfl zj zg zg rfl) ?_; exact h.o) : G := k ⟨n⟩
theorem W49 (n : R) (k : Z R G := by intro h; refine qe rfl rfl (xI (vs := [(0, _), (1, _), (3, _), (2, _)]) (zs := [.i 0, .i 0, .i 0, .i 0]) qs0 zO rfl rfl rfl rfl) ?_; refine q9 rfl (zN (vs := [(0, _)]) (zs := [.i 0, .i 0, .i 0, .i 0]) 150 Tryz.underlying33 zO rfl rfl zj zj zj rfl rfl rfl rfl zT0 rfl rfl) ?_; exact h.o) : G := k ⟨n⟩
theorem W50 (n : R) (k : Z R G := by intro h; refine q9 rfl (zN (vs := [(0, _)]) (zs := [.nil]) 194 Tryz.underlying84 u9 rfl rfl zj zj zj rfl rfl rfl rfl zT0 rfl rfl) ?_; refine qf rfl (xK Tryz.underlying84 u9 rfl zj rfl rfl rfl rfl rfl rfl zT5 zT0 rfl rfl rfl rfl rfl rfl rfl zj zg zg rfl) ?_; exact h.o) : G := k ⟨n⟩
theorem W51 (n : R) (k : Z R G := by intro h; refine yW ?_; refine qf rfl (zX zz rfl rfl rfl rfl rfl rfl rfl rfl zT9) ?_; exact h.o) : G := k ⟨n⟩
theorem W52 (n : R) (k : Z R G := by intro h; refine qe rfl rfl (xI (vs := [(0, _), (1, _)]) (zs := [.i 0, .i 0]) jW4 q58 rfl rfl rfl rfl) ?_; refine q9 rfl (zp (l := [.i 0, .i 0]) 10 q58 rfl rfl rfl rfl) ?_; exact h.o) : G := k ⟨n⟩
theorem W53 (n : R) (k : Z R G := by intro h; refine ve ?_; apply qg; exact h.o) : G := k ⟨n⟩
theorem W54 (n : R) (k : Z R G := by intro h; refine W25 ?_; refine q9 rfl (zp (l := [.i 0, .nil]) 7 xN rfl rfl rfl rfl) ?_; exact h.o) : G := k ⟨n⟩
theorem W55 (n : R) (k : Z R G := by intro h; refine q9 rfl (zp (l := [.i 0, .i 0, .i 0, .i 0]) 9 zO rfl rfl rfl rfl) ?_; refine zR ?_; exact h.o) : G := k ⟨n⟩
theorem W56 (n : R) (k : Z R G := by intro h; refine qP7 ?_; refine Dv ?_; exact h.o) : G := k ⟨n⟩
theorem W57 (n : R) (k : Z R G := by intro h; refine qe rfl rfl (qO1 rfl rfl rfl) ?_; refine Dv ?_; exact h.o) : G := k ⟨n⟩
theorem W58 (n : R) (k : Z R G := by intro h; apply qr; refine q9 rfl (uV 1 rfl rfl rfl rfl rfl) ?_; refine q9 rfl (zp (l := [.i 0, .nil]) 2 xN rfl rfl rfl rfl) ?_; exact h.o) : G := k ⟨n⟩
theorem W59 (n : R) (k : Z R G := by intro h; refine qi [(0, true), (1, true), (2, true), (3, true), (4, true), (5, true), (6, true), (7, true), (8, true), (9, true), (10, true), (11, true)] (fun i => !([] : List Nat).contains i) 12 zh zh rfl zh ?_; refine wn ?_; exact h.o) : G := k ⟨n⟩
theorem W60 (n : R) (k : Z R G := by intro h; refine xu ?_; apply qg; exact h.o) : G := k ⟨n⟩
theorem W61 (n : R) (k : Z R G := by intro h; refine ql (i := 0) rfl rfl rfl (fun _ _ h => h) zh rfl (vC rfl rfl) ?_; refine ql (i := 1) rfl rfl rfl (fun _ _ h => h) zh rfl (vC rfl rfl) ?_; exact h.o) : G := k ⟨n⟩
theorem W62 (n : R) (k : Z R G := by intro h; refine qe rfl rfl (gm rfl rfl) ?_; refine Dv ?_; exact h.o) : G := k ⟨n⟩
theorem W63 (n : R) (k : Z R G := by intro h; refine vF ?_; refine qi [(0, true), (1, true), (2, true), (3, true), (4, true), (5, true), (6, true), (7, true), (8, true), (9, true), (10, false)] (fun i => !([10] : List Nat).contains i) 11 zh zh rfl zh ?_; exact h.o) : G := k ⟨n⟩
theorem W64 (n : R) (k : Z R G := by intro h; refine W58 ?_; refine zC ?_; exact h.o) : G := k ⟨n⟩
theorem W65 (n : R) (k : Z R G := by intro h; refine xu ?_; refine q9 rfl (zp (l := [.i 0, .i 0, .i 0, .i 0]) 14 zO rfl zT0 rfl rfl) ?_; exact h.o) : G := k ⟨n⟩
theorem W66 (n : R) (k : Z R G := by intro h; refine yW ?_; refine q9 rfl (zp (l := [.i 0, .i 0, .i 0, .i 0]) 7 zO rfl rfl rfl rfl) ?_; exact h.o) : G := k ⟨n⟩
theorem W67 (n : R) (k : Z R G := by intro h; simp only [gF, S.put, List.cons_append, List.nil_append, List.zip_cons_cons, List.zip_nil_left, List.drop_succ_cons, List.drop_zero, List.length_cons, List.length_nil, Nat.zero_add, Nat.reduceAdd]; refine zC ?_; exact h.o) : G := k ⟨n⟩
theorem W68 (n : R) (k : Z R G := by intro h; refine yB ?_; refine q9 rfl (zp (l := [.i 0, .i 0, .i 0, .i 0]) 8 zO rfl rfl rfl rfl) ?_; exact h.o) : G := k ⟨n⟩
theorem W69 (n : R) (k : Z R G := by intro h; refine xu ?_; refine q9 rfl (zp (l := [.i 0, .i 0, .i 0, .i 0]) 16 zO rfl (by first | rfl | (simp only [S.clean, S.put, S.newObj, List.all_cons, zP, Nat.reduceLT]; simp [S.forget, V.has, V.hasL, zV, xg, V.cs, xm, xF, xG, xc, x4, zE, zA, zL, xL, xC, nb1, nb2, nb3, nb4, -List.map_set]; try omega)) rfl rfl) ?_; exact h.o) : G := k ⟨n⟩
theorem W70 (n : R) (k : Z R G := by intro h; refine zY ?_; refine q9 rfl (qr7 23 Tryz.underlying101 q13 rfl rfl rfl rfl zg zj (by first | rfl | (simp only [S.clean, S.put, S.newObj, List.all_cons, zP, Nat.reduceLT]; simp [S.forget, V.has, V.hasL, zV, xg, V.cs, xm, xF, xG, xc, x4, zE, zA, zL, xL, xC, nb1, nb2, nb3, nb4, -List.map_set]; try omega)) rfl) ?_; exact h.o) : G := k ⟨n⟩
theorem W71 (n : R) (k : Z R G := by intro h; apply qg; refine qi [(0, true), (1, true), (2, true), (3, true), (4, true), (5, true), (6, true), (7, true), (8, false), (9, false)] (fun i => !([] : List Nat).contains i) 10 zh zh rfl zh ?_; exact h.o) : G := k ⟨n⟩
theorem W72 (n : R) (k : Z R G := by intro h; refine q32 ?_; refine Dv ?_; exact h.o) : G := k ⟨n⟩
theorem W73 (n : R) (k : Z R G := by intro h; refine wn ?_; refine q9 rfl (zp (l := [.i 0, .nil]) 13 xD rfl (by first | rfl | (simp only [S.clean, S.put, S.newObj, List.all_cons, zP, Nat.reduceLT]; simp [S.forget, V.has, V.hasL, zV, xg, V.cs, xm, xF, xG, xc, x4, zE, zA, zL, xL, xC, nb1, nb2, nb3, nb4, -List.map_set]; try omega)) rfl rfl) ?_; exact h.o) : G := k ⟨n⟩
theorem W74 (n : R) (k : Z R G := by intro h; refine qf rfl (vA u9 rfl rfl rfl rfl rfl rfl rfl zT7 rfl) ?_; refine Dv ?_; exact h.o) : G := k ⟨n⟩
theorem W75 (n : R) (k : Z R G := by intro h; refine zY ?_; apply qg; exact h.o) : G := k ⟨n⟩
theorem W76 (n : R) (k : Z R G := by intro h; refine xu ?_; refine q9 rfl (zp (l := [.i 0, .nil]) 8 xD rfl rfl rfl rfl) ?_; exact h.o) : G := k ⟨n⟩
theorem W77 (n : R) (k : Z R G := by intro h; refine xu ?_; refine q9 rfl (zp (l := [.i 0, .i 0]) 7 q15 rfl rfl rfl rfl) ?_; exact h.o) : G := k ⟨n⟩
theorem W78 (n : R) (k : Z R G := by intro h; refine W47 ?_; refine q9 rfl (zp (l := [.i 0, .nil]) 5 xN rfl rfl rfl rfl) ?_; exact h.o) : G := k ⟨n⟩
theorem W79 (n : R) (k : Z R G := by intro h; refine q32 ?_; refine wn ?_; exact h.o) : G := k ⟨n⟩
theorem W80 (n : R) (k : Z R G := by intro h; refine qp (i := 3) zh ?_; refine wg ?_; exact h.o) : G := k ⟨n⟩
theorem W81 (n : R) (k : Z R G := by intro h; refine xd ?_; apply qg; exact h.o) : G := k ⟨n⟩
theorem W82 (n : R) (k : Z R G := by intro h; refine qi [(0, true), (1, true), (2, true), (3, true), (4, true), (5, true), (6, true), (7, true), (8, true), (9, true), (10, true), (11, true), (12, true), (13, true), (14, true), (15, false), (16, false), (17, false), (18, false)] (fun i => !([16, 17, 18] : List Nat).contains i) 19 zh zh rfl zh ?_; refine vF ?_; exact h.o) : G := k ⟨n⟩
theorem W83 (n : R) (k : Z R G := by intro h; refine qi [(0, true), (1, true), (2, true), (3, true), (4, true), (5, true), (6, true), (7, true), (8, true), (9, true), (10, true), (11, true), (12, true), (13, true), (14, true), (15, true), (16, true), (17, true), (18, true), (19, true)] (fun i => !([] : List Nat).contains i) 20 zh zh rfl zh ?_; (iterate 20 refine Dv ?_); exact h.o) : G := k ⟨n⟩
theorem W84 (n : R) (k : Z R G := by intro h; apply qg; refine qi [(0, true), (1, true), (2, true), (3, true), (4, true), (5, true), (6, true), (7, true), (8, true), (9, true), (10, true), (11, true), (12, true), (13, true), (14, true), (15, true), (16, true), (17, true), (18, true), (19, false)] (fun i => !([19] : List Nat).contains i) 20 zh zh rfl zh ?_; exact h.o) : G := k ⟨n⟩
theorem W85 (n : R) (k : Z R G := by intro h; refine qm ?_; refine qO ?_; exact h.o) : G := k ⟨n⟩
theorem W86 (n : R) (k : Z R G := by intro h; refine xu ?_; refine q9 rfl (zp (l := [.i 0, .i 0, .i 0, .i 0]) 9 zO rfl rfl rfl rfl) ?_; exact h.o) : G := k ⟨n⟩
theorem W87 (n : R) (k : Z R G := by intro h; refine xu ?_; refine q9 rfl (zp (l := [.i 0, .i 0, .i 0, .i 0]) 12 zO rfl zT0 rfl rfl) ?_; exact h.o) : G := k ⟨n⟩
theorem W88 (n : R) (k : Z R G := by intro h; refine zW ?_; refine q9 rfl (zN (vs := [(0, _)]) (zs := [.i 0]) 14 Tryz.underlying42 zz rfl rfl zj zj zj rfl rfl rfl rfl zT0 rfl rfl) ?_; exact h.o) : G := k ⟨n⟩
theorem W89 (n : R) (k : Z R G := by intro h; refine qe rfl rfl (xI (vs := [(0, _), (1, _), (2, _), (3, _)]) (zs := [.i 0, .i 0, .i 0, .i 0]) qs0 zO rfl rfl rfl rfl) ?_; refine q9 rfl (zN (vs := [(0, _)]) (zs := [.i 0, .i 0, .i 0, .i 0]) 130 Tryz.underlying33 zO rfl rfl zj zj zj rfl rfl rfl rfl zT0 rfl rfl) ?_; exact h.o) : G := k ⟨n⟩
theorem W90 (n : R) (k : Z R G := by intro h; refine qe rfl rfl (xI (vs := [(0, _), (1, _), (2, _), (3, _)]) (zs := [.i 0, .i 0, .i 0, .i 0]) qs0 zO rfl rfl rfl rfl) ?_; refine q9 rfl (zN (vs := [(0, _)]) (zs := [.i 0, .i 0, .i 0, .i 0]) 145 Tryz.underlying33 zO rfl rfl zj zj zj rfl rfl rfl rfl zT0 rfl rfl) ?_; exact h.o) : G := k ⟨n⟩
theorem W91 (n : R) (k : Z R G := by intro h; refine W7 ?_; refine q9 rfl (zp (l := [.b false, .b false, .b false, .b false, .b false]) 2 q80 rfl rfl rfl rfl) ?_; exact h.o) : G := k ⟨n⟩
theorem W92 (n : R) (k : Z R G := by intro h; refine xu ?_; refine q9 rfl (zp (l := [.i 0, .i 0]) 17 q58 rfl zT0 rfl rfl) ?_; exact h.o) : G := k ⟨n⟩
theorem W93 (n : R) (k : Z R G := by intro h; refine zQ ?_; refine xS ?_; exact h.o) : G := k ⟨n⟩
theorem W94 (n : R) (k : Z R G := by intro h; refine qK rfl rfl rfl (qb8 rfl rfl rfl) ?_; refine W33 ?_; exact h.o) : G := k ⟨n⟩
theorem W95 (n : R) (k : Z R G := by intro h; refine W44 ?_; refine q9 rfl (zN (vs := [(0, _)]) (zs := [.i 0, .i 0, .i 0, .i 0]) 60 Tryz.underlying33 zO rfl rfl zj zj zj rfl rfl rfl rfl zT0 rfl rfl) ?_; exact h.o) : G := k ⟨n⟩
theorem W96 (n : R) (k : Z R G := by intro h; refine W58 ?_; refine zW ?_; exact h.o) : G := k ⟨n⟩
theorem W97 (n : R) (k : Z R G := by intro h; refine qe rfl rfl (xI (vs := [(0, _), (1, _), (2, _), (3, _), (4, _)]) (zs := [.b false, .b false, .b false, .b false, .b false]) jK5 q80 rfl rfl rfl rfl) ?_; refine q9 rfl (zp (l := [.b false, .b false, .b false, .b false, .b false]) 5 q80 rfl rfl rfl rfl) ?_; exact h.o) : G := k ⟨n⟩
theorem W98 (n : R) (k : Z R G := by intro h; refine qf rfl (zX zz rfl rfl rfl rfl rfl rfl rfl rfl zT9) ?_; refine zC ?_; exact h.o) : G := k ⟨n⟩
theorem W99 (n : R) (k : Z R G := by intro h; refine xu ?_; refine q9 rfl (zp (l := [.i 0, .i 0]) 5 q15 rfl (by simp [S.clean, S.put, S.newObj, S.forget, V.has, V.hasL, zV, xg, V.cs, xm, bJ, qc1, xF, xG, xc, x4, zE, zA, -List.map_set]) rfl rfl) ?_; exact h.o) : G := k ⟨n⟩
theorem q61 (n : R) (k : Z R G := by intro h; refine xX ?_; apply qg; exact h.o) : G := k ⟨n⟩
theorem qB8 (n : R) (k : Z R G := by intro h; apply qr; refine q9 rfl (uV 3 rfl rfl rfl rfl rfl) ?_; exact h.o) : G := k ⟨n⟩
theorem qB9 (n : R) (k : Z R G := by intro h; refine qp (i := 5) zh ?_; refine wg ?_; exact h.o) : G := k ⟨n⟩
theorem g7 (n : R) (k : Z R G := by intro h; apply qr; refine W6 ?_; exact h.o) : G := k ⟨n⟩
theorem jK7 (n : R) (k : Z R G := by intro h; refine qi [(0, true), (1, true), (2, true), (3, true), (4, true), (5, true), (6, true), (7, true), (8, true), (9, true), (10, true), (11, true), (12, false)] (fun i => !([12] : List Nat).contains i) 13 zh zh rfl zh ?_; refine wn ?_; exact h.o) : G := k ⟨n⟩
theorem qe9 (n : R) (k : Z R G := by intro h; refine zQ ?_; refine wn ?_; exact h.o) : G := k ⟨n⟩
theorem jb9 (n : R) (k : Z R G := by intro h; (try simp only [wY, S.put, List.nil_append, List.cons_append]); refine x8 ?_; exact h.o) : G := k ⟨n⟩
theorem q33 (n : R) (k : Z R G := by intro h; refine W7 ?_; refine vF ?_; exact h.o) : G := k ⟨n⟩
theorem jp5 (n : R) (k : Z R G := by intro h; refine xd ?_; refine qe rfl rfl (xI (vs := [(0, _)]) (zs := [.i 0, .nil]) qa2 xD rfl rfl rfl rfl) ?_; exact h.o) : G := k ⟨n⟩
theorem jK8 (n : R) (k : Z R G := by intro h; refine qi [(0, true), (1, true), (2, true), (3, true), (4, true), (5, true), (6, true), (7, true), (8, true), (9, true), (10, false), (11, false)] (fun i => !([] : List Nat).contains i) 12 zh zh rfl zh ?_; refine xB ?_; exact h.o) : G := k ⟨n⟩
theorem jK9 (n : R) (k : Z R G := by intro h; refine qi [(0, true), (1, true), (2, true), (3, true), (4, true), (5, true), (6, true), (7, true), (8, true), (9, true), (10, false), (11, false)] (fun i => !([10, 11] : List Nat).contains i) 12 zh zh rfl zh ?_; refine Dv ?_; exact h.o) : G := k ⟨n⟩
theorem jp6 (n : R) (k : Z R G := by intro h; refine qe rfl rfl (xI (vs := []) (zs := [.i 0, .nil, .i 0]) jK6 gZ rfl rfl rfl rfl) ?_; refine zC ?_; exact h.o) : G := k ⟨n⟩
theorem jL0 (n : R) (k : Z R G := by intro h; refine qi [(0, true), (1, true), (2, true), (3, true), (6, true), (7, true), (4, false), (5, true), (8, false), (9, false), (10, false)] (fun i => !([] : List Nat).contains i) 11 zh zh rfl zh ?_; refine zY ?_; exact h.o) : G := k ⟨n⟩
theorem jc0 (n : R) (k : Z R G := by intro h; refine W47 ?_; refine q9 rfl (zp (l := [.i 0, .nil]) 9 xN rfl rfl rfl rfl) ?_; exact h.o) : G := k ⟨n⟩
theorem qf0 (n : R) (k : Z R G := by intro h; refine zQ ?_; refine xX ?_; exact h.o) : G := k ⟨n⟩
theorem jL1 (n : R) (k : Z R G := by intro h; simp only [gF, S.put, List.cons_append, List.nil_append, List.zip_cons_cons, List.zip_nil_left, List.drop_succ_cons, List.drop_zero, List.length_cons, List.length_nil, Nat.zero_add, Nat.reduceAdd]; refine zR ?_; exact h.o) : G := k ⟨n⟩
theorem jL2 (n : R) (k : Z R G := by intro h; refine qi [(0, true), (1, true), (2, true), (3, true), (4, true), (5, true), (6, true), (7, true), (8, false), (9, false)] (fun i => !([9] : List Nat).contains i) 10 zh zh rfl zh ?_; refine xB ?_; exact h.o) : G := k ⟨n⟩
theorem jL3 (n : R) (k : Z R G := by intro h; simp only [gF, S.put, List.cons_append, List.nil_append, List.zip_cons_cons, List.zip_nil_left, List.drop_succ_cons, List.drop_zero, List.length_cons, List.length_nil, Nat.zero_add, Nat.reduceAdd]; refine xd ?_; exact h.o) : G := k ⟨n⟩
theorem jL4 (n : R) (k : Z R G := by intro h; simp only [gF, S.put, List.cons_append, List.nil_append, List.zip_cons_cons, List.zip_nil_left, List.drop_succ_cons, List.drop_zero, List.length_cons, List.length_nil, Nat.zero_add, Nat.reduceAdd]; refine zW ?_; exact h.o) : G := k ⟨n⟩
theorem jp7 (n : R) (k : Z R G := by intro h; (iterate 26 refine Dv ?_); refine q9 rfl (zp (l := [.i 0, .i 0, .i 0, .i 0]) 9 zO rfl zT0 rfl rfl) ?_; exact h.o) : G := k ⟨n⟩
theorem jL5 (n : R) (k : Z R G := by intro h; simp only [gF, S.put, List.cons_append, List.nil_append, List.zip_cons_cons, List.zip_nil_left, List.drop_succ_cons, List.drop_zero, List.length_cons, List.length_nil, Nat.zero_add, Nat.reduceAdd]; refine jz ?_; exact h.o) : G := k ⟨n⟩
theorem qk6 (n : R) (k : Z R G := by intro h; refine zQ ?_; refine xu ?_; exact h.o) : G := k ⟨n⟩
theorem jp8 (n : R) (k : Z R G := by intro h; refine qO ?_; refine qo rfl rfl rfl (gY xD rfl rfl rfl rfl rfl rfl rfl rfl zT3 rfl) ?_; exact h.o) : G := k ⟨n⟩
theorem jL6 (n : R) (k : Z R G := by intro h; simp only [gF, S.put, List.cons_append, List.nil_append, List.zip_cons_cons, List.zip_nil_left, List.drop_succ_cons, List.drop_zero, List.length_cons, List.length_nil, Nat.zero_add, Nat.reduceAdd]; refine Dv ?_; exact h.o) : G := k ⟨n⟩
theorem jp9 (n : R) (k : Z R G := by intro h; refine zR ?_; refine q9 rfl (zp (l := [.i 0, .i 0, .i 0]) 18 qw7 rfl zT0 rfl rfl) ?_; exact h.o) : G := k ⟨n⟩
theorem q62 (n : R) (k : Z R G := by intro h; refine zQ ?_; refine Dv ?_; exact h.o) : G := k ⟨n⟩
theorem jq0 (n : R) (k : Z R G := by intro h; refine xu ?_; refine q9 rfl (zp (l := [.i 0, .i 0]) 15 q14 rfl zT0 rfl rfl) ?_; exact h.o) : G := k ⟨n⟩
theorem qC0 (n : R) (k : Z R G := by intro h; refine zQ ?_; refine yW ?_; exact h.o) : G := k ⟨n⟩
theorem jL7 (n : R) (k : Z R G := by intro h; refine zC ?_; refine q9 rfl (zN (vs := [(0, _)]) (zs := [.i 0, .i 0, .i 0, .i 0]) 132 Tryz.underlying33 zO rfl rfl zj zj zj rfl rfl rfl rfl zT0 rfl rfl) ?_; exact h.o) : G := k ⟨n⟩
theorem jL8 (n : R) (k : Z R G := by intro h; (try simp only [S.put, zZ, List.zip_cons_cons, List.zip_nil_left, List.drop_succ_cons, List.drop_zero, List.length_cons, List.length_nil, Nat.zero_add, Nat.reduceAdd]); refine xd ?_; exact h.o) : G := k ⟨n⟩
theorem jq1 (n : R) (k : Z R G := by intro h; refine zC ?_; refine qs2 ?_; exact h.o) : G := k ⟨n⟩
theorem jc1 (n : R) (k : Z R G := by intro h; refine qa3 ?_; apply qM; exact h.o) : G := k ⟨n⟩
theorem jq2 (n : R) (k : Z R G := by intro h; refine uy ?_; refine qs2 ?_; exact h.o) : G := k ⟨n⟩
theorem jq3 (n : R) (k : Z R G := by intro h; refine xd ?_; refine q9 rfl (zp (l := [.i 0]) 20 qc2 rfl zT0 rfl rfl) ?_; exact h.o) : G := k ⟨n⟩
theorem jc2 (n : R) (k : Z R G := by intro h; refine W41 ?_; refine q9 rfl (zp (l := [.i 0, .nil]) 4 xN rfl rfl rfl rfl) ?_; exact h.o) : G := k ⟨n⟩
theorem jq4 (n : R) (k : Z R G := by intro h; refine qB7 ?_; refine zC ?_; exact h.o) : G := k ⟨n⟩
theorem jc3 (n : R) (k : Z R G := by intro h; refine qp (i := 18) zh ?_; refine bM ?_; exact h.o) : G := k ⟨n⟩
theorem jq5 (n : R) (k : Z R G := by intro h; refine zQ ?_; refine ql (i := 5) rfl rfl rfl (fun _ _ h => h) zh rfl (vC rfl rfl) ?_; exact h.o) : G := k ⟨n⟩
theorem qs3 (n : R) (k : Z R G := by intro h; refine zQ ?_; refine zC ?_; exact h.o) : G := k ⟨n⟩
theorem jL9 (n : R) (k : Z R G := by intro h; refine xB ?_; refine q9 rfl (zN (vs := [(0, _)]) (zs := [.i 0, .i 0, .i 0, .i 0]) 33 Tryz.underlying33 zO rfl rfl zj zj zj rfl rfl rfl rfl zT0 rfl rfl) ?_; exact h.o) : G := k ⟨n⟩
theorem jM0 (n : R) (k : Z R G := by intro h; (try simp only [S.put, zZ, List.zip_cons_cons, List.zip_nil_left, List.drop_succ_cons, List.drop_zero, List.length_cons, List.length_nil, Nat.zero_add, Nat.reduceAdd]); refine Dv ?_; exact h.o) : G := k ⟨n⟩
theorem jM1 (n : R) (k : Z R G := by intro h; refine qe rfl rfl (xI (vs := [(0, _)]) (zs := [.i 0, .nil]) qa2 xD rfl rfl rfl rfl) ?_; refine q9 rfl (zp (l := [.i 0, .nil]) 12 xD rfl zT0 rfl rfl) ?_; exact h.o) : G := k ⟨n⟩
theorem qk7 (n : R) (k : Z R G := by intro h; refine W16 ?_; refine zC ?_; exact h.o) : G := k ⟨n⟩
theorem jM2 (n : R) (k : Z R G := by intro h; refine qv (i := 11) rfl rfl rfl rfl (fun _ _ h => h) zh rfl (vC rfl rfl) ?_; refine qv (i := 12) rfl rfl rfl rfl (fun _ _ h => h) zh rfl (vC rfl rfl) ?_; exact h.o) : G := k ⟨n⟩
theorem jM3 (n : R) (k : Z R G := by intro h; refine qe8 ?_; refine q9 rfl (zp (l := [.i 0, .nil]) 10 xN rfl rfl rfl rfl) ?_; exact h.o) : G := k ⟨n⟩
theorem jM4 (n : R) (k : Z R G := by intro h; refine qv (i := 6) rfl rfl rfl rfl (fun _ _ h => h) zh rfl (vC rfl rfl) ?_; refine qv (i := 7) rfl rfl rfl rfl (fun _ _ h => h) zh rfl (vC rfl rfl) ?_; exact h.o) : G := k ⟨n⟩
theorem qs4 (n : R) (k : Z R G := by intro h; refine zQ ?_; refine zY ?_; exact h.o) : G := k ⟨n⟩
theorem jM5 (n : R) (k : Z R G := by intro h; refine qe8 ?_; refine q9 rfl (zp (l := [.i 0, .nil]) 7 xN rfl rfl rfl rfl) ?_; exact h.o) : G := k ⟨n⟩
theorem jM6 (n : R) (k : Z R G := by intro h; refine qe8 ?_; refine q9 rfl (zp (l := [.i 0, .nil]) 11 xN rfl rfl rfl rfl) ?_; exact h.o) : G := k ⟨n⟩
theorem jc4 (n : R) (k : Z R G := by intro h; apply qr; refine AL.rd rfl rfl (j13 rfl rfl zm) ?_; exact h.o) : G := k ⟨n⟩
theorem jM7 (n : R) (k : Z R G := by intro h; refine ql (i := 8) rfl rfl rfl (fun _ _ h => h) zh rfl (qw0 rfl rfl rfl zT6) ?_; refine ql (i := 9) rfl rfl rfl (fun _ _ h => h) zh rfl (yE rfl rfl) ?_; exact h.o) : G := k ⟨n⟩
theorem qf1 (n : R) (k : Z R G := by intro h; refine W10 ?_; refine zC ?_; exact h.o) : G := k ⟨n⟩
theorem q34 (n : R) (k : Z R G := by intro h; refine W31 ?_; apply qg; exact h.o) : G := k ⟨n⟩
theorem q63 (n : R) (k : Z R G := by intro h; apply qg; apply qg; exact h.o) : G := k ⟨n⟩
theorem q35 (n : R) (k : Z R G := by intro h; refine ql (i := 7) rfl rfl rfl (fun _ _ h => h) zh rfl (yE rfl rfl) ?_; refine ql (i := 8) rfl rfl rfl (fun _ _ h => h) zh rfl (yE rfl rfl) ?_; refine qL zh ?_; exact h.o) : G := k ⟨n⟩
theorem qf2 (n : R) (k : Z R G := by intro h; refine W7 ?_; refine zY ?_; exact h.o) : G := k ⟨n⟩
theorem jM8 (n : R) (k : Z R G := by intro h; refine qe rfl rfl (xI (vs := []) (zs := [.b false, .b false, .b false, .b false, .b false]) jK5 q80 rfl rfl rfl rfl) ?_; refine zC ?_; exact h.o) : G := k ⟨n⟩
theorem qC1 (n : R) (k : Z R G := by intro h; refine zQ ?_; refine xB ?_; exact h.o) : G := k ⟨n⟩
theorem jc5 (n : R) (k : Z R G := by intro h; refine qe rfl rfl (qO2 rfl rfl rfl) ?_; refine Dv ?_; exact h.o) : G := k ⟨n⟩
theorem jM9 (n : R) (k : Z R G := by intro h; refine AL.rd rfl rfl (xH (m := 1) Tryz.underlying33 rfl rfl rfl rfl rfl rfl (fun _ => rfl) rfl zm zm) ?_; refine zW ?_; exact h.o) : G := k ⟨n⟩
theorem jN0 (n : R) (k : Z R G := by intro h; (try simp only [wY, S.put, vV, List.nil_append, List.cons_append, List.append_nil, Nat.zero_add, Nat.reduceAdd]); refine wn ?_; exact h.o) : G := k ⟨n⟩
theorem jN1 (n : R) (k : Z R G := by intro h; (try simp only [wY, S.put, vV, List.nil_append, List.cons_append, List.append_nil, Nat.zero_add, Nat.reduceAdd]); refine xX ?_; exact h.o) : G := k ⟨n⟩
theorem jN2 (n : R) (k : Z R G := by intro h; (try simp only [wY, S.put, vV, List.nil_append, List.cons_append, List.append_nil, Nat.zero_add, Nat.reduceAdd]); refine x8 ?_; exact h.o) : G := k ⟨n⟩
theorem jN3 (n : R) (k : Z R G := by intro h; (try simp only [wY, S.put, vV, List.nil_append, List.cons_append, List.append_nil, Nat.zero_add, Nat.reduceAdd]); refine zC ?_; exact h.o) : G := k ⟨n⟩
theorem jN4 (n : R) (k : Z R G := by intro h; refine uy ?_; refine q9 rfl (vg 19 V.b (false) Tryz.underlying51 qa1 rfl rfl rfl rfl rfl zg zj rfl rfl) ?_; exact h.o) : G := k ⟨n⟩
theorem jq6 (n : R) (k : Z R G := by intro h; refine qe rfl rfl (jE0 Tryz.underlying152 rfl rfl rfl) ?_; refine W81 ?_; exact h.o) : G := k ⟨n⟩
theorem jN5 (n : R) (k : Z R G := by intro h; refine ve ?_; refine q9 rfl (vg 34 V.i (0) Tryz.underlying42 zz rfl rfl rfl rfl rfl zg zj rfl rfl) ?_; exact h.o) : G := k ⟨n⟩
theorem jN6 (n : R) (k : Z R G := by intro h; (iterate 26 refine Dv ?_); refine qe8 ?_; exact h.o) : G := k ⟨n⟩
theorem jN7 (n : R) (k : Z R G := by intro h; refine qC0 ?_; refine q9 rfl (zN (vs := [(0, _)]) (zs := [.i 0]) 27 Tryz.underlying42 zz rfl rfl zj zj zj rfl rfl rfl rfl zT0 rfl rfl) ?_; exact h.o) : G := k ⟨n⟩
theorem jN8 (n : R) (k : Z R G := by intro h; refine yW ?_; refine qe rfl rfl (xI (vs := [(0, _)]) (zs := [.i 0, .nil]) qa2 xD rfl rfl rfl rfl) ?_; exact h.o) : G := k ⟨n⟩
theorem jN9 (n : R) (k : Z R G := by intro h; refine zQ ?_; refine AL.rd rfl rfl (qc3 Tryz.underlying9 Tryz.underlying141 qc2 rfl rfl rfl zm) ?_; exact h.o) : G := k ⟨n⟩
theorem qC2 (n : R) (k : Z R G := by intro h; refine W16 ?_; refine zR ?_; exact h.o) : G := k ⟨n⟩
theorem jq7 (n : R) (k : Z R G := by intro h; refine qe rfl rfl (gm rfl rfl) ?_; refine xd ?_; exact h.o) : G := k ⟨n⟩
theorem jO0 (n : R) (k : Z R G := by intro h; refine W44 ?_; refine q9 rfl (zN (vs := [(0, _)]) (zs := [.i 0, .i 0, .i 0, .i 0]) 71 Tryz.underlying33 zO rfl rfl zj zj zj rfl rfl rfl rfl zT0 rfl rfl) ?_; exact h.o) : G := k ⟨n⟩
theorem jO1 (n : R) (k : Z R G := by intro h; refine xu ?_; refine q9 rfl (zp (l := [.i 0, .i 0, .i 0, .i 0]) 19 zO rfl zT0 rfl rfl) ?_; exact h.o) : G := k ⟨n⟩
theorem jq8 (n : R) (k : Z R G := by intro h; refine qv (i := 19) rfl rfl rfl rfl (fun _ _ h => h) zh rfl (qB2 rfl rfl rfl zT2) ?_; refine W43 ?_; exact h.o) : G := k ⟨n⟩
theorem jO2 (n : R) (k : Z R G := by intro h; refine yB ?_; refine q9 rfl (zp (l := [.i 0, .i 0, .i 0, .i 0]) 14 zO rfl zT0 rfl rfl) ?_; exact h.o) : G := k ⟨n⟩
theorem jO3 (n : R) (k : Z R G := by intro h; refine xu ?_; refine q9 rfl (zp (l := [.i 0, .i 0, .i 0, .i 0]) 16 zO rfl zT0 rfl rfl) ?_; exact h.o) : G := k ⟨n⟩
theorem jq9 (n : R) (k : Z R G := by intro h; refine qv (i := 19) rfl rfl rfl rfl (fun _ _ h => h) zh rfl (qB3 rfl rfl rfl zT2) ?_; refine W43 ?_; exact h.o) : G := k ⟨n⟩
theorem jO4 (n : R) (k : Z R G := by intro h; refine yB ?_; refine q9 rfl (zp (l := [.i 0, .i 0, .i 0, .i 0]) 15 zO rfl zT0 rfl rfl) ?_; exact h.o) : G := k ⟨n⟩
theorem jr0 (n : R) (k : Z R G := by intro h; refine qp (i := 4) zh ?_; refine wg ?_; exact h.o) : G := k ⟨n⟩
theorem qs5 (n : R) (k : Z R G := by intro h; refine W10 ?_; refine zW ?_; exact h.o) : G := k ⟨n⟩
theorem qP9 (n : R) (k : Z R G := by intro h; refine xB ?_; apply qg; exact h.o) : G := k ⟨n⟩
theorem jO5 (n : R) (k : Z R G := by intro h; refine q9 rfl (zp (l := [.d (.p (.pointer none)), .nil]) 900 qk4 rfl rfl rfl rfl) ?_; refine Dv ?_; exact h.o) : G := k ⟨n⟩
theorem qs6 (n : R) (k : Z R G := by intro h; refine W7 ?_; refine zC ?_; exact h.o) : G := k ⟨n⟩
theorem jO6 (n : R) (k : Z R G := by intro h; refine qs2 ?_; refine zY ?_; exact h.o) : G := k ⟨n⟩
theorem jc6 (n : R) (k : Z R G := by intro h; refine qK rfl rfl rfl (yE rfl rfl) ?_; refine W33 ?_; exact h.o) : G := k ⟨n⟩
theorem jO7 (n : R) (k : Z R G := by intro h; refine gi ?_; refine qf rfl (zX zz rfl rfl rfl rfl rfl rfl rfl rfl zT9) ?_; exact h.o) : G := k ⟨n⟩
end Go.Proofs.YthiknkcigcglkaaGreatDoor
