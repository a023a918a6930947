-- %hmode
-- %heapc
/- topo.lowest: the methods of a heap of numbers. -/
import Derived.Test.YtnpbdcjfealoeaaAmHeap
import Derived.Test.YtnpbdcjfealoeaaAmB
namespace Go.Proofs.Ytnpbdcjfealoeaa
open Go.RowKit
set_option linter.unusedSimpArgs false
set_option linter.unusedVariables false
set_option maxRecDepth 100000

def HT : HI Nat := ⟨99, 3, 101, 1, fun x => [V.n x], fun x => (x : Int), fun x => .iface 3 (.int .i64 (x : Int))⟩
theorem HT_H (l : List Nat) (f : Bool) (H0 : List (Nat × Row)) : HT.H l f H0 = (900, ⟨99, [.own 901 1 l.length f], false, 0⟩) :: (901, ⟨3, l.map V.n, f, 1⟩) :: H0 := by
 simp only [HI.H, HT]
 rw [show l.flatMap (fun x => [V.n x]) = l.map V.n by induction l with | nil => rfl | cons x l ih => simp [List.flatMap_cons, ih]]
theorem mT_Len : ∀ p w, (method (Try.prog.types.size + Made.depth) 101 (.pointer (some p)) "Len").run Try.prog w = (Sem.load .plain p (fun v => .pure (138, v))).run Try.prog w := fun p w => by kernel_rfl
theorem mT_Less : ∀ p w, (method (Try.prog.types.size + Made.depth) 101 (.pointer (some p)) "Less").run Try.prog w = (Sem.load .plain p (fun v => .pure (139, v))).run Try.prog w := fun p w => by kernel_rfl
theorem mT_Swap : ∀ p w, (method (Try.prog.types.size + Made.depth) 101 (.pointer (some p)) "Swap").run Try.prog w = (Sem.load .plain p (fun v => .pure (140, v))).run Try.prog w := fun p w => by kernel_rfl
theorem mT_Push : ∀ p w, (method (Try.prog.types.size + Made.depth) 101 (.pointer p) "Push").run Try.prog w = .ok (142, .pointer p) w := fun p w => by kernel_rfl
theorem mT_Pop : ∀ p w, (method (Try.prog.types.size + Made.depth) 101 (.pointer p) "Pop").run Try.prog w = .ok (141, .pointer p) w := fun p w => by kernel_rfl

theorem HT_len (l : List Nat) (f : Bool) (H0 : List (Nat × Row)) (K : List V) (hl : Lw H0 K) : PM Try.prog HT.pty (.ref 900 0) "Len" [] (HT.H l f H0) K (fun v H' K' => v = .i (l.length : Int) ∧ H' = HT.H l f H0 ∧ K' = K) := by
 rw [HT_H]
 refine PM.val (n := 5) ⟨Try.func138, rfl, rfl, rfl, rfl⟩ (by simp) mT_Len rfl rfl rfl fun w0 out kx => ?_
 refine AW.seq ?_
 refine AW.region ?_
 refine AL.rp rfl rfl (rp_assign rfl rfl) ?_
 refine AL.nil ?_
 try simp only [thenS, S.put, enum, List.nil_append, List.cons_append, List.append_nil, Nat.zero_add, Nat.reduceAdd]
 refine AW.seq ?_
 refine AW.region ?_
 refine AL.rp rfl rfl (rp_move rfl rfl) ?_
 (first | (refine AL.rp rfl rfl (rp_len_map Try.underlying99 rfl rfl (by assumption)) ?_) | (refine AL.rp rfl rfl (rp_len_own Try.underlying99 rfl rfl) ?_) | (refine AL.rp rfl rfl (rp_len_sl Try.underlying99 rfl rfl) ?_) | (refine AL.rp rfl rfl (rp_len_nil Try.underlying99 rfl rfl) ?_) | (refine AL.rp rfl rfl (rp_len_str Try.underlying99 rfl rfl) ?_))
 refine AL.rp rfl rfl (rp_assign rfl rfl) ?_
 refine AL.nil ?_
 try simp only [thenS, S.put]
 refine AW.ret ?_
 exact ⟨[_], ⟨rfl, trivial⟩, rfl, rfl, rfl⟩
theorem HT_less (l : List Nat) (H0 : List (Nat × Row)) (K : List V) (i' j' : Int) (i j : Nat) (x y : Nat) (b : Bool) (hl : Lw H0 K) (hi' : i' = (i : Int)) (hj' : j' = (j : Int)) (hi : l[i]? = some x) (hj : l[j]? = some y) (hb : decide (HT.key x < HT.key y) = b) : PM Try.prog HT.pty (.ref 900 0) "Less" [.i i', .i j'] (HT.H l false H0) K (fun v H' K' => v = .b b ∧ H' = HT.H l false H0 ∧ K' = K) := by
 subst hi' hj' hb
 have h1 := (List.getElem?_eq_some_iff.1 hi).1
 have h2 := (List.getElem?_eq_some_iff.1 hj).1
 rw [HT_H]
 refine PM.val (n := 16) ⟨Try.func139, rfl, rfl, rfl, rfl⟩ (by simp) mT_Less rfl rfl rfl fun w0 out kx => ?_
 refine AW.seq ?_
 refine AW.region ?_
 refine AL.rp rfl rfl (rp_assign rfl rfl) ?_
 refine AL.nil ?_
 try simp only [thenS, S.put, enum, List.nil_append, List.cons_append, List.append_nil, Nat.zero_add, Nat.reduceAdd]
 refine AW.seq ?_
 refine AW.draw [(0, true), (1, true), (2, true), (3, true), (4, true), (5, true), (6, true), (7, true), (8, true), (9, true)] (fun i => !([] : List Nat).contains i) 10 (by kernel_rfl) (by kernel_rfl) rfl (by kernel_rfl) ?_
 refine AD1.rp rfl rfl rfl (fun _ _ h => h) (rp_move rfl rfl) ?_
 refine AD1.rp rfl rfl rfl (fun _ _ h => h) (rp_move rfl rfl) ?_
 (first | (refine AD1.rp rfl rfl rfl (fun _ _ h => h) (rp_index_map Try.underlying99 inf3 rfl rfl rfl rfl (by assumption)) ?_) | (refine AD1.rp rfl rfl rfl (fun _ _ h => h) (rp_index_own Try.underlying99 inf3 rfl rfl rfl rfl (by first | assumption | omega)) ?_) | (refine AD1.rp rfl rfl rfl (fun _ _ h => h) (rd_index_sl Try.underlying99 inf3 rfl rfl rfl rfl (by assumption)) ?_) | (refine AD1.rp rfl rfl rfl (fun _ _ h => h) (rp_index_own Try.underlying99 inf3 rfl rfl rfl (by omega) (by omega)) ?_))
 (first | (refine AD1.rd rfl rfl rfl (fun _ _ h => h) (rd_load_ref Try.underlying3 rfl rfl rfl rfl rfl rfl) ?_) | (refine AD1.rd rfl rfl rfl (fun _ _ h => h) (rd_load_ad Try.underlying3 rfl rfl rfl rfl) ?_) | (refine AD1.rd rfl rfl rfl (fun _ _ h => h) (rd_load_map Try.underlying3 rfl rfl rfl rfl rfl rfl (by assumption)) ?_) | (refine AD1.rd rfl rfl rfl (fun _ _ h => h) (rd_load_flat Try.underlying3 rfl rfl rfl rfl rfl rfl (fun _ => rfl) (by assumption) rfl) ?_))
 refine AD1.rp rfl rfl rfl (fun _ _ h => h) (rp_move rfl rfl) ?_
 refine AD1.rp rfl rfl rfl (fun _ _ h => h) (rp_move rfl rfl) ?_
 (first | (refine AD1.rp rfl rfl rfl (fun _ _ h => h) (rp_index_map Try.underlying99 inf3 rfl rfl rfl rfl (by assumption)) ?_) | (refine AD1.rp rfl rfl rfl (fun _ _ h => h) (rp_index_own Try.underlying99 inf3 rfl rfl rfl rfl (by first | assumption | omega)) ?_) | (refine AD1.rp rfl rfl rfl (fun _ _ h => h) (rd_index_sl Try.underlying99 inf3 rfl rfl rfl rfl (by assumption)) ?_) | (refine AD1.rp rfl rfl rfl (fun _ _ h => h) (rp_index_own Try.underlying99 inf3 rfl rfl rfl (by omega) (by omega)) ?_))
 (first | (refine AD1.rd rfl rfl rfl (fun _ _ h => h) (rd_load_ref Try.underlying3 rfl rfl rfl rfl rfl rfl) ?_) | (refine AD1.rd rfl rfl rfl (fun _ _ h => h) (rd_load_ad Try.underlying3 rfl rfl rfl rfl) ?_) | (refine AD1.rd rfl rfl rfl (fun _ _ h => h) (rd_load_map Try.underlying3 rfl rfl rfl rfl rfl rfl (by assumption)) ?_) | (refine AD1.rd rfl rfl rfl (fun _ _ h => h) (rd_load_flat Try.underlying3 rfl rfl rfl rfl rfl rfl (fun _ => rfl) (by assumption) rfl) ?_))
 (first | (refine AD1.rp rfl rfl rfl (fun _ _ h => h) (rp_lssT rfl rfl rfl (by first | assumption | omega | (dsimp only; omega))) ?_) | (refine AD1.rp rfl rfl rfl (fun _ _ h => h) (rp_lssF rfl rfl rfl (by first | assumption | omega | (dsimp only; omega))) ?_) | (refine AD1.rp rfl rfl rfl (fun _ _ h => h) (rp_lss rfl rfl rfl) ?_))
 refine AD1.rp rfl rfl rfl (fun _ _ h => h) (rp_assign rfl rfl) ?_
 refine AD1.nil ?_
 try simp only [thenS, S.put]
 refine AW.ret ?_
 exact ⟨[_], ⟨rfl, trivial⟩, rfl, rfl, rfl⟩
theorem HT_swap (l : List Nat) (H0 : List (Nat × Row)) (K : List V) (i' j' : Int) (i j : Nat) (x y : Nat) (hl : Lw H0 K) (hi' : i' = (i : Int)) (hj' : j' = (j : Int)) (hi : l[i]? = some x) (hj : l[j]? = some y) : PM Try.prog HT.pty (.ref 900 0) "Swap" [.i i', .i j'] (HT.H l false H0) K (fun v H' K' => H' = HT.H (swp l i j x y) false H0 ∧ K' = K) := by
 subst hi' hj'
 have h1 := (List.getElem?_eq_some_iff.1 hi).1
 have h2 := (List.getElem?_eq_some_iff.1 hj).1
 have h3 : j < (l.set i y).length := by rw [List.length_set]; exact h2
 rw [HT_H]
 refine PM.val (n := 20) ⟨Try.func140, rfl, rfl, rfl, rfl⟩ (by simp) mT_Swap rfl rfl rfl fun w0 out kx => AW.weaken ?_
 refine AW.drawF [(0, 2), (1, 2), (2, 2), (3, 2), (4, 2), (5, 2), (6, 2), (7, 1), (8, 2), (9, 2), (10, 2), (11, 1), (12, 2), (13, 0), (14, 2), (15, 0)] (fun i => !([13, 15] : List Nat).contains i) 16 (by kernel_rfl) (by kernel_rfl) rfl (by kernel_rfl) ?_
 refine AF1.rp rfl rfl rfl (fun _ _ h => h) (rp_move rfl rfl) ?_
 refine AF1.rp rfl rfl rfl (fun _ _ h => h) (rp_move rfl rfl) ?_
 refine AF1.rp rfl rfl rfl (fun _ _ h => h) (rp_move rfl rfl) ?_
 refine AF1.rp rfl rfl rfl (fun _ _ h => h) (rp_move rfl rfl) ?_
 refine AF1.rp rfl rfl rfl (fun _ _ h => h) (rp_move rfl rfl) ?_
 refine AF1.rp rfl rfl rfl (fun _ _ h => h) (rp_move rfl rfl) ?_
 (first | (refine AF1.rp rfl rfl rfl (fun _ _ h => h) (rp_index_map Try.underlying99 inf3 rfl rfl rfl rfl (by assumption)) ?_) | (refine AF1.rp rfl rfl rfl (fun _ _ h => h) (rp_index_own Try.underlying99 inf3 rfl rfl rfl rfl (by first | assumption | omega)) ?_) | (refine AF1.rp rfl rfl rfl (fun _ _ h => h) (rd_index_sl Try.underlying99 inf3 rfl rfl rfl rfl (by assumption)) ?_) | (refine AF1.rp rfl rfl rfl (fun _ _ h => h) (rp_index_own Try.underlying99 inf3 rfl rfl rfl (by omega) (by omega)) ?_))
 (first | (refine AF1.rd rfl rfl rfl (fun _ _ h => h) (rd_load_ref Try.underlying3 rfl rfl rfl rfl rfl rfl) ?_) | (refine AF1.rd rfl rfl rfl (fun _ _ h => h) (rd_load_ad Try.underlying3 rfl rfl rfl rfl) ?_) | (refine AF1.rd rfl rfl rfl (fun _ _ h => h) (rd_load_map Try.underlying3 rfl rfl rfl rfl rfl rfl (by assumption)) ?_) | (refine AF1.rd rfl rfl rfl (fun _ _ h => h) (rd_load_flat Try.underlying3 rfl rfl rfl rfl rfl rfl (fun _ => rfl) (by assumption) rfl) ?_))
 refine AF1.rp rfl rfl rfl (fun _ _ h => h) (rp_move rfl rfl) ?_
 refine AF1.rp rfl rfl rfl (fun _ _ h => h) (rp_move rfl rfl) ?_
 (first | (refine AF1.rp rfl rfl rfl (fun _ _ h => h) (rp_index_map Try.underlying99 inf3 rfl rfl rfl rfl (by assumption)) ?_) | (refine AF1.rp rfl rfl rfl (fun _ _ h => h) (rp_index_own Try.underlying99 inf3 rfl rfl rfl rfl (by first | assumption | omega)) ?_) | (refine AF1.rp rfl rfl rfl (fun _ _ h => h) (rd_index_sl Try.underlying99 inf3 rfl rfl rfl rfl (by assumption)) ?_) | (refine AF1.rp rfl rfl rfl (fun _ _ h => h) (rp_index_own Try.underlying99 inf3 rfl rfl rfl (by omega) (by omega)) ?_))
 (first | (refine AF1.rd rfl rfl rfl (fun _ _ h => h) (rd_load_ref Try.underlying3 rfl rfl rfl rfl rfl rfl) ?_) | (refine AF1.rd rfl rfl rfl (fun _ _ h => h) (rd_load_ad Try.underlying3 rfl rfl rfl rfl) ?_) | (refine AF1.rd rfl rfl rfl (fun _ _ h => h) (rd_load_map Try.underlying3 rfl rfl rfl rfl rfl rfl (by assumption)) ?_) | (refine AF1.rd rfl rfl rfl (fun _ _ h => h) (rd_load_flat Try.underlying3 rfl rfl rfl rfl rfl rfl (fun _ => rfl) (by assumption) rfl) ?_))
 (first | (refine AF1.rp rfl rfl rfl (fun _ _ h => h) (rp_index_map Try.underlying99 inf3 rfl rfl rfl rfl (by assumption)) ?_) | (refine AF1.rp rfl rfl rfl (fun _ _ h => h) (rp_index_own Try.underlying99 inf3 rfl rfl rfl rfl (by first | assumption | omega)) ?_) | (refine AF1.rp rfl rfl rfl (fun _ _ h => h) (rd_index_sl Try.underlying99 inf3 rfl rfl rfl rfl (by assumption)) ?_) | (refine AF1.rp rfl rfl rfl (fun _ _ h => h) (rp_index_own Try.underlying99 inf3 rfl rfl rfl (by omega) (by omega)) ?_))
 refine AF1.go ?_
 refine AF2.go ?_
 refine AF3.st rfl rfl rfl (st_store_map2 (v := y) inf3 rfl rfl rfl rfl rfl rfl rfl rfl (by first | assumption | omega)) ?_
 (first | (refine AF3.rp rfl rfl rfl (fun _ _ h => h) (rp_index_map Try.underlying99 inf3 rfl rfl rfl rfl (by assumption)) ?_) | (refine AF3.rp rfl rfl rfl (fun _ _ h => h) (rp_index_own Try.underlying99 inf3 rfl rfl rfl rfl (by first | assumption | omega)) ?_) | (refine AF3.rp rfl rfl rfl (fun _ _ h => h) (rd_index_sl Try.underlying99 inf3 rfl rfl rfl rfl (by assumption)) ?_) | (refine AF3.rp rfl rfl rfl (fun _ _ h => h) (rp_index_own Try.underlying99 inf3 rfl rfl rfl (by omega) (by omega)) ?_))
 refine AF3.st rfl rfl rfl (st_store_map2 (v := x) inf3 rfl rfl rfl rfl rfl rfl rfl rfl (by first | assumption | omega)) ?_
 refine AF3.nil ?_
 try simp only [thenS, S.put, S.newObj, setL, V.cs, List.length_cons, List.length_nil, List.take_succ_cons, List.take_zero, List.drop_succ_cons, List.drop_zero, List.drop_nil, List.nil_append, List.cons_append, List.append_nil, Nat.zero_add, Nat.reduceAdd, List.map_cons, List.map_nil, List.set_cons_zero, List.set_cons_succ, enum]
 refine ⟨_, Less.hp (T := []) trivial rfl rfl (fun k row h => hl.low (T := [_, _, _, _]) (by rfl) k row h), [], trivial, ?_, rfl⟩
 rw [HT_H, swp_len]; rfl
theorem HT_push (l : List Nat) (f : Bool) (H0 : List (Nat × Row)) (K : List V) (x : Nat) (hl : Lw H0 K) (hlen : l.length < 1000000) : PM Try.prog HT.pty (.ref 900 0) "Push" [.d (.p (HT.box x))] (HT.H l f H0) K (fun v H' K' => H' = HT.H (l ++ [x]) false H0 ∧ K' = K) := by
 rw [HT_H]
 refine PM.ptr (n := 13) ⟨Try.func142, rfl, rfl, rfl, rfl⟩ (by simp) mT_Push fun w0 out kx => AW.weaken ?_
 refine AW.drawF [(0, 2), (1, 2), (2, 2), (3, 1), (4, 2), (5, 2), (6, 0), (7, 0), (8, 2), (9, 0)] (fun i => !([7, 9] : List Nat).contains i) 10 (by kernel_rfl) (by kernel_rfl) rfl (by kernel_rfl) ?_
 refine AF1.rp rfl rfl rfl (fun _ _ h => h) (rp_move rfl rfl) ?_
 refine AF1.rp rfl rfl rfl (fun _ _ h => h) (rp_move rfl rfl) ?_
 (first | (refine AF1.rp rfl rfl rfl (fun _ _ h => h) (rp_nilCheck rfl rfl) ?_) | (refine AF1.rp rfl rfl rfl (fun _ _ h => h) (rp_nilCheck_ad rfl rfl) ?_))
 (first | (refine AF1.rd rfl rfl rfl (fun _ _ h => h) (rd_load_ref Try.underlying99 rfl rfl rfl rfl rfl rfl) ?_) | (refine AF1.rd rfl rfl rfl (fun _ _ h => h) (rd_load_ad Try.underlying99 rfl rfl rfl rfl) ?_) | (refine AF1.rd rfl rfl rfl (fun _ _ h => h) (rd_load_map Try.underlying99 rfl rfl rfl rfl rfl rfl (by assumption)) ?_) | (refine AF1.rd rfl rfl rfl (fun _ _ h => h) (rd_load_flat Try.underlying99 rfl rfl rfl rfl rfl rfl (fun _ => rfl) (by assumption) rfl) ?_))
 refine AF1.rp rfl rfl rfl (fun _ _ h => h) (rp_move rfl rfl) ?_
 (first | (refine AF1.rp rfl rfl rfl (fun _ _ h => h) (rp_assert rfl Try.underlying3 (by intro m h; cases h) rfl) ?_) | (refine AF1.rp rfl rfl rfl (fun _ _ h => h) (rp_assertA [_] rfl Try.underlying3 (by intro m h; cases h) rfl) ?_))
 refine AF1.go ?_
 refine AF2.sm rfl rfl (sm_slice (vs := [(0, _)]) (zs := [.d (.p (.int .i64 0))]) 910 Try.underlying99 inf3 rfl rfl (by decide) (by decide) (by decide) rfl rfl rfl rfl (by first | rfl | (refine S.clean_hp (L := [_, _]) hl (by decide) ?_ ?_ <;> simp [S.put, S.newObj, S.forget, enum, V.has, V.hasL, junkIf, setL, V.cs, hasL_i, hasL_b, hasL_s, hasL_n, hasL_rep, hasL_flat, hasL_append, -List.map_set]) | (refine S.clean_hp (L := [_, _, _]) hl (by decide) ?_ ?_ <;> simp [S.put, S.newObj, S.forget, enum, V.has, V.hasL, junkIf, setL, V.cs, hasL_i, hasL_b, hasL_s, hasL_n, hasL_rep, hasL_flat, hasL_append, -List.map_set]) | (refine S.clean_hp (L := [_, _, _, _]) hl (by decide) ?_ ?_ <;> simp [S.put, S.newObj, S.forget, enum, V.has, V.hasL, junkIf, setL, V.cs, hasL_i, hasL_b, hasL_s, hasL_n, hasL_rep, hasL_flat, hasL_append, -List.map_set]) | (refine S.clean_hp (L := [_, _, _, _, _]) hl (by decide) ?_ ?_ <;> simp [S.put, S.newObj, S.forget, enum, V.has, V.hasL, junkIf, setL, V.cs, hasL_i, hasL_b, hasL_s, hasL_n, hasL_rep, hasL_flat, hasL_append, -List.map_set]) | (refine S.clean_hp (L := [_, _, _, _, _, _]) hl (by decide) ?_ ?_ <;> simp [S.put, S.newObj, S.forget, enum, V.has, V.hasL, junkIf, setL, V.cs, hasL_i, hasL_b, hasL_s, hasL_n, hasL_rep, hasL_flat, hasL_append, -List.map_set]) | simp [S.put, S.newObj, S.forget, enum, V.has, V.hasL, junkIf, setL, V.cs, hasL_i, hasL_b, hasL_s, hasL_n, hasL_rep, hasL_flat, hasL_append, -List.map_set]) (by first | rfl | (refine S.clean_hp (L := [_, _]) hl (by decide) ?_ ?_ <;> simp [S.put, S.newObj, S.forget, enum, V.has, V.hasL, junkIf, setL, V.cs, hasL_i, hasL_b, hasL_s, hasL_n, hasL_rep, hasL_flat, hasL_append, -List.map_set]) | (refine S.clean_hp (L := [_, _, _]) hl (by decide) ?_ ?_ <;> simp [S.put, S.newObj, S.forget, enum, V.has, V.hasL, junkIf, setL, V.cs, hasL_i, hasL_b, hasL_s, hasL_n, hasL_rep, hasL_flat, hasL_append, -List.map_set]) | (refine S.clean_hp (L := [_, _, _, _]) hl (by decide) ?_ ?_ <;> simp [S.put, S.newObj, S.forget, enum, V.has, V.hasL, junkIf, setL, V.cs, hasL_i, hasL_b, hasL_s, hasL_n, hasL_rep, hasL_flat, hasL_append, -List.map_set]) | (refine S.clean_hp (L := [_, _, _, _, _]) hl (by decide) ?_ ?_ <;> simp [S.put, S.newObj, S.forget, enum, V.has, V.hasL, junkIf, setL, V.cs, hasL_i, hasL_b, hasL_s, hasL_n, hasL_rep, hasL_flat, hasL_append, -List.map_set]) | (refine S.clean_hp (L := [_, _, _, _, _, _]) hl (by decide) ?_ ?_ <;> simp [S.put, S.newObj, S.forget, enum, V.has, V.hasL, junkIf, setL, V.cs, hasL_i, hasL_b, hasL_s, hasL_n, hasL_rep, hasL_flat, hasL_append, -List.map_set]) | simp [S.put, S.newObj, S.forget, enum, V.has, V.hasL, junkIf, setL, V.cs, hasL_i, hasL_b, hasL_s, hasL_n, hasL_rep, hasL_flat, hasL_append, -List.map_set]) rfl) ?_
 refine AF2.go ?_
 refine AF3.st rfl rfl rfl (st_appendF Try.underlying99 inf3 rfl (by decide) rfl rfl rfl rfl rfl rfl (by first | assumption | rfl | (simp; done)) (by first | rfl | (refine S.clean_hp (L := [_, _]) hl (by decide) ?_ ?_ <;> simp [S.put, S.newObj, S.forget, enum, V.has, V.hasL, junkIf, setL, V.cs, hasL_i, hasL_b, hasL_s, hasL_n, hasL_rep, hasL_flat, hasL_append, -List.map_set]) | (refine S.clean_hp (L := [_, _, _]) hl (by decide) ?_ ?_ <;> simp [S.put, S.newObj, S.forget, enum, V.has, V.hasL, junkIf, setL, V.cs, hasL_i, hasL_b, hasL_s, hasL_n, hasL_rep, hasL_flat, hasL_append, -List.map_set]) | (refine S.clean_hp (L := [_, _, _, _]) hl (by decide) ?_ ?_ <;> simp [S.put, S.newObj, S.forget, enum, V.has, V.hasL, junkIf, setL, V.cs, hasL_i, hasL_b, hasL_s, hasL_n, hasL_rep, hasL_flat, hasL_append, -List.map_set]) | (refine S.clean_hp (L := [_, _, _, _, _]) hl (by decide) ?_ ?_ <;> simp [S.put, S.newObj, S.forget, enum, V.has, V.hasL, junkIf, setL, V.cs, hasL_i, hasL_b, hasL_s, hasL_n, hasL_rep, hasL_flat, hasL_append, -List.map_set]) | (refine S.clean_hp (L := [_, _, _, _, _, _]) hl (by decide) ?_ ?_ <;> simp [S.put, S.newObj, S.forget, enum, V.has, V.hasL, junkIf, setL, V.cs, hasL_i, hasL_b, hasL_s, hasL_n, hasL_rep, hasL_flat, hasL_append, -List.map_set]) | simp [S.put, S.newObj, S.forget, enum, V.has, V.hasL, junkIf, setL, V.cs, hasL_i, hasL_b, hasL_s, hasL_n, hasL_rep, hasL_flat, hasL_append, -List.map_set]) rfl rfl rfl rfl rfl (by first | rfl | (refine S.clean_hp (L := [_, _]) hl (by decide) ?_ ?_ <;> simp [S.put, S.newObj, S.forget, enum, V.has, V.hasL, junkIf, setL, V.cs, hasL_i, hasL_b, hasL_s, hasL_n, hasL_rep, hasL_flat, hasL_append, -List.map_set]) | (refine S.clean_hp (L := [_, _, _]) hl (by decide) ?_ ?_ <;> simp [S.put, S.newObj, S.forget, enum, V.has, V.hasL, junkIf, setL, V.cs, hasL_i, hasL_b, hasL_s, hasL_n, hasL_rep, hasL_flat, hasL_append, -List.map_set]) | (refine S.clean_hp (L := [_, _, _, _]) hl (by decide) ?_ ?_ <;> simp [S.put, S.newObj, S.forget, enum, V.has, V.hasL, junkIf, setL, V.cs, hasL_i, hasL_b, hasL_s, hasL_n, hasL_rep, hasL_flat, hasL_append, -List.map_set]) | (refine S.clean_hp (L := [_, _, _, _, _]) hl (by decide) ?_ ?_ <;> simp [S.put, S.newObj, S.forget, enum, V.has, V.hasL, junkIf, setL, V.cs, hasL_i, hasL_b, hasL_s, hasL_n, hasL_rep, hasL_flat, hasL_append, -List.map_set]) | (refine S.clean_hp (L := [_, _, _, _, _, _]) hl (by decide) ?_ ?_ <;> simp [S.put, S.newObj, S.forget, enum, V.has, V.hasL, junkIf, setL, V.cs, hasL_i, hasL_b, hasL_s, hasL_n, hasL_rep, hasL_flat, hasL_append, -List.map_set]) | simp [S.put, S.newObj, S.forget, enum, V.has, V.hasL, junkIf, setL, V.cs, hasL_i, hasL_b, hasL_s, hasL_n, hasL_rep, hasL_flat, hasL_append, -List.map_set]) rfl (by decide) (by omega) (by omega) rfl) ?_
 simp only [S.forget, S.put, S.newObj, List.filter_cons, Nat.reduceBNe, bne_self_eq_false, if_true, if_false, Bool.false_eq_true, ↓reduceIte, List.map_cons, hl.forgetK 901 (by decide), hl.forgetH 901 (by decide)]
 simp only [S.forget, S.put, S.newObj, junkIf, V.has, V.hasL, hasL_i, hasL_b, hasL_s, hasL_d, hasL_n, hasL_rep, hasL_flat, hasL_append, List.map_cons, List.map_nil, List.filter_cons, List.filter_nil, Nat.reduceBNe, Nat.reduceBEq, eq_self, bne_self_eq_false,  Bool.not_true, Bool.not_false, Bool.or_false, Bool.or_true, Bool.false_or, Bool.true_or, if_true, if_false, Bool.false_eq_true, ite_true, ite_false, ↓reduceIte, beq_self_eq_true, Nat.reduceEqDiff]
 (first | (refine AF3.rp rfl rfl rfl (fun _ _ h => h) (rp_nilCheck rfl rfl) ?_) | (refine AF3.rp rfl rfl rfl (fun _ _ h => h) (rp_nilCheck_ad rfl rfl) ?_))
 (first | (refine AF3.st rfl rfl rfl (st_store_map2 inf99 rfl rfl rfl rfl rfl rfl rfl rfl (by first | assumption | omega)) ?_) | (refine AF3.st rfl rfl rfl (st_store inf99 rfl rfl rfl rfl rfl rfl rfl (by first | decide | (simp; done)) rfl) ?_))
 refine AF3.nil ?_
 try simp only [thenS, S.put, S.newObj, setL, V.cs, List.length_cons, List.length_nil, List.take_succ_cons, List.take_zero, List.drop_succ_cons, List.drop_zero, List.drop_nil, List.nil_append, List.cons_append, List.append_nil, Nat.zero_add, Nat.reduceAdd, List.map_cons, List.map_nil, List.set_cons_zero, List.set_cons_succ, enum]
 refine ⟨_, Less.hp (T := []) trivial rfl rfl (fun k row h => hl.low (T := [_, _, _, _]) (by rfl) k row h), [], trivial, ?_, rfl⟩
 rw [HT_H]; simp
theorem HT_pop (l : List Nat) (H0 : List (Nat × Row)) (K : List V) (x : Nat) (hl : Lw H0 K) (hlen : l.length < 1000000) : PM Try.prog HT.pty (.ref 900 0) "Pop" [] (HT.H (l ++ [x]) false H0) K (fun v H' K' => v = .d (.p (HT.box x)) ∧ H' = HT.H l false H0 ∧ K' = K) := by
 have hx : (l ++ [x])[l.length]? = some x := by simp
 have hlast : ((l ++ [x]).length : Int) - 1 = (l.length : Int) := by simp
 have hlt : l.length < (l ++ [x]).length := by simp
 have hle : l.length ≤ (l ++ [x]).length := by simp
 rw [HT_H]
 refine PM.ptr (n := 23) ⟨Try.func141, rfl, rfl, rfl, rfl⟩ (by simp) mT_Pop fun w0 out kx => AW.weaken ?_
 obtain ⟨n, hn⟩ : ∃ n, (l ++ [x]).length = n := ⟨_, rfl⟩
 rw [hn] at hlast hlt hle ⊢
 refine AW.seq ?_
 refine AW.region ?_
 refine AL.rp rfl rfl (rp_assign rfl rfl) ?_
 refine AL.nil ?_
 try simp only [thenS, S.put, enum, List.nil_append, List.cons_append, List.append_nil, Nat.zero_add, Nat.reduceAdd]
 refine AW.seq ?_
 refine AW.region ?_
 refine AL.rp rfl rfl (rp_move rfl rfl) ?_
 (first | (refine AL.rp rfl rfl (rp_nilCheck rfl rfl) ?_) | (refine AL.rp rfl rfl (rp_nilCheck_ad rfl rfl) ?_))
 (first | (refine AL.rd rfl rfl (rd_load_ref Try.underlying99 rfl rfl rfl rfl rfl rfl) ?_) | (refine AL.rd rfl rfl (rd_load_ad Try.underlying99 rfl rfl rfl rfl) ?_) | (refine AL.rd rfl rfl (rd_load_map Try.underlying99 rfl rfl rfl rfl rfl rfl (by assumption)) ?_) | (refine AL.rd rfl rfl (rd_load_flat Try.underlying99 rfl rfl rfl rfl rfl rfl (fun _ => rfl) (by assumption) rfl) ?_))
 refine AL.rp rfl rfl (rp_assign rfl rfl) ?_
 refine AL.nil ?_
 try simp only [thenS, S.put]
 refine AW.seq ?_
 refine AW.region ?_
 refine AL.rp rfl rfl (rp_move rfl rfl) ?_
 refine AL.rp rfl rfl (rp_move rfl rfl) ?_
 (first | (refine AL.rp rfl rfl (rp_len_map Try.underlying99 rfl rfl (by assumption)) ?_) | (refine AL.rp rfl rfl (rp_len_own Try.underlying99 rfl rfl) ?_) | (refine AL.rp rfl rfl (rp_len_sl Try.underlying99 rfl rfl) ?_) | (refine AL.rp rfl rfl (rp_len_nil Try.underlying99 rfl rfl) ?_) | (refine AL.rp rfl rfl (rp_len_str Try.underlying99 rfl rfl) ?_))
 refine AL.rp rfl rfl (rp_sub rfl rfl rfl (by first | omega | (dsimp only; omega))) ?_
 (first | (refine AL.rp rfl rfl (rp_index_own (k := l.length) Try.underlying99 inf3 rfl rfl rfl (by omega) (by omega)) ?_) | (refine AL.rp rfl rfl (rp_index_map (k := l.length) Try.underlying99 inf3 rfl rfl rfl (by omega) (by assumption)) ?_))
 (first | (refine AL.rd rfl rfl (rd_load_ref Try.underlying3 rfl rfl rfl rfl rfl rfl) ?_) | (refine AL.rd rfl rfl (rd_load_ad Try.underlying3 rfl rfl rfl rfl) ?_) | (refine AL.rd rfl rfl (rd_load_map Try.underlying3 rfl rfl rfl rfl rfl rfl (by assumption)) ?_) | (refine AL.rd rfl rfl (rd_load_flat Try.underlying3 rfl rfl rfl rfl rfl rfl (fun _ => rfl) (by assumption) rfl) ?_))
 refine AL.rp rfl rfl (rp_assign rfl rfl) ?_
 refine AL.nil ?_
 try simp only [thenS, S.put]
 refine AW.seq ?_
 refine AW.region ?_
 refine AL.rp rfl rfl (rp_move rfl rfl) ?_
 refine AL.rp rfl rfl (rp_move rfl rfl) ?_
 refine AL.rp rfl rfl (rp_move rfl rfl) ?_
 (first | (refine AL.rp rfl rfl (rp_len_map Try.underlying99 rfl rfl (by assumption)) ?_) | (refine AL.rp rfl rfl (rp_len_own Try.underlying99 rfl rfl) ?_) | (refine AL.rp rfl rfl (rp_len_sl Try.underlying99 rfl rfl) ?_) | (refine AL.rp rfl rfl (rp_len_nil Try.underlying99 rfl rfl) ?_) | (refine AL.rp rfl rfl (rp_len_str Try.underlying99 rfl rfl) ?_))
 refine AL.rp rfl rfl (rp_sub rfl rfl rfl (by first | omega | (dsimp only; omega))) ?_
 refine AL.rd rfl rfl (rp_slice_own (k := l.length) Try.underlying99 inf3 rfl rfl rfl (by first | rfl | omega) (by omega)) ?_
 (first | (refine AL.rp rfl rfl (rp_nilCheck rfl rfl) ?_) | (refine AL.rp rfl rfl (rp_nilCheck_ad rfl rfl) ?_))
 (first | (refine AL.st rfl (st_store_map2 inf99 rfl rfl rfl rfl rfl rfl rfl rfl (by first | assumption | omega)) ?_) | (refine AL.st rfl (st_store inf99 rfl rfl rfl rfl rfl rfl rfl (by first | decide | (simp; done)) rfl) ?_))
 refine AL.nil ?_
 try simp only [thenS, S.put, S.newObj, setL, V.cs, List.length_cons, List.length_nil, List.take_succ_cons, List.take_zero, List.drop_succ_cons, List.drop_zero, List.drop_nil, List.nil_append, List.cons_append, List.append_nil, Nat.zero_add, Nat.reduceAdd, List.map_cons, List.map_nil, List.set_cons_zero, List.set_cons_succ]
 refine AW.seq ?_
 refine AW.region ?_
 refine AL.rp rfl rfl (rp_move rfl rfl) ?_
 (first | (refine AL.rp rfl rfl (rp_mkP rfl rfl (fun _ _ => by kernel_rfl)) ?_) | (refine AL.rp rfl rfl (rp_mkA [_] rfl rfl rfl (fun _ _ => by kernel_rfl)) ?_) | (refine AL.rp rfl rfl (rp_mkIfc rfl rfl (fun _ _ => by kernel_rfl)) ?_))
 refine AL.rp rfl rfl (rp_assign rfl rfl) ?_
 refine AL.nil ?_
 try simp only [thenS, S.put]
 refine AW.ret ?_
 refine ⟨_, Less.hpc (l.map V.n) (T := [(2, _)]) ⟨⟨_, rfl, Wk.refl _⟩, trivial⟩ rfl rfl ⟨[V.n x], by simp⟩ (fun k row h => hl.low (T := [_, _, _]) (by rfl) k row h), [_], ⟨rfl, trivial⟩, rfl, ?_, rfl⟩
 rw [HT_H]
theorem HT_ok : HIok HT := ⟨HT_len, HT_less, HT_swap, HT_push, HT_pop⟩

theorem lowL_n {b : Nat} (l : List Nat) : V.lowL b (l.map V.n) = true := by
 induction l with
 | nil => rfl
 | cons x l ih => simp only [List.map_cons, V.lowL, ih, Bool.and_true]; rfl
abbrev hpTl (l : List Nat) (f : Bool) (H0 : List (Nat × Row)) : List (Nat × Row) := (900, ⟨99, [.own 901 1 l.length f], false, 0⟩) :: (901, ⟨3, l.map V.n, f, 1⟩) :: H0
theorem am_pushT {H0 : List (Nat × Row)} {K : List V} (hl : Lw H0 K) (l : List Nat) (f : Bool) (x : Nat) (hlen : l.length < 1000000) (hh : Hp HT.key l) : PC Try.prog 72 [.ifc 101 (.ref 900 0), .d (.p (.iface 3 (.int .i64 (x : Int))))] (hpTl l f H0) K (fun v H' K' => ∃ l', Hp HT.key l' ∧ l'.Perm (x :: l) ∧ H' = hpTl l' false H0 ∧ K' = K) := by
 have := am_hpPush HT_ok hl l f x hlen hh
 simp only [HT_H] at this
 exact this
theorem am_popT {H0 : List (Nat × Row)} {K : List V} (hl : Lw H0 K) (l : List Nat) (x : Nat) (hlen : l.length ≤ 1000000) (hh : Hp HT.key l) (hx : l[0]? = some x) : PC Try.prog 73 [.ifc 101 (.ref 900 0)] (hpTl l false H0) K (fun v H' K' => v = .d (.p (.iface 3 (.int .i64 (x : Int)))) ∧ ∃ l', Hp HT.key l' ∧ l.Perm (x :: l') ∧ H' = hpTl l' false H0 ∧ K' = K) := by
 have := am_hpPop HT_ok hl l x hlen hh hx
 simp only [HT_H] at this
 exact this
end Go.Proofs.Ytnpbdcjfealoeaa
