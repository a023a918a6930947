-- %hmode
-- %heapc
/- best.ways: the methods of a heap of numbers. -/
import Derived.Test.YtnpbdcjfealoeaaAmHeap
import Derived.Test.YtnpbdcjfealoeaaAmB
import Derived.Test.YtnpbdcjfealoeaaAmY
import Derived.Test.YtnpbdcjfealoeaaKb2
import Derived.Test.YtnpbdcjfealoeaaAmJ2
namespace Go.Proofs.Ytnpbdcjfealoeaa
open Go.RowKit
set_option linter.unusedSimpArgs false
set_option linter.unusedVariables false
set_option maxRecDepth 100000

abbrev wyV (e : Wy) : List V := [V.i e.a, V.n e.c, V.n e.l]
abbrev wyB (e : Wy) : Value := .iface 112 (.agg #[.int .i64 e.a, .int .i64 (e.c : Int), .int .i64 (e.l : Int)])
@[simp] theorem hasL_wy (r : Nat) (l : List Wy) : V.hasL r (l.flatMap wyV) = false := by
 rw [V.hasL_false]
 intro v hv
 obtain ⟨e, _, he⟩ := List.mem_flatMap.1 hv
 simp only [List.mem_cons, List.not_mem_nil, or_false] at he
 rcases he with rfl | rfl | rfl <;> rfl
@[simp] theorem sum_wy (l : List Wy) : (l.map fun _ => 3).sum = l.length * 3 := by
 induction l with
 | nil => rfl
 | cons x l ih => simp only [List.map_cons, List.sum_cons, ih, List.length_cons]; omega
def HB : HI Wy := ⟨110, 112, 113, 3, wyV, fun e => (e.l : Int), wyB⟩
theorem HB_H (l : List Wy) (f : Bool) (H0 : List (Nat × Row)) : HB.H l f H0 = (900, ⟨110, [.own 901 3 l.length f], false, 0⟩) :: (901, ⟨112, l.flatMap wyV, f, 3⟩) :: H0 := rfl
theorem mB_Len : ∀ p w, (method (Try.prog.types.size + Made.depth) 113 (.pointer (some p)) "Len").run Try.prog w = (Sem.load .plain p (fun v => .pure (143, v))).run Try.prog w := fun p w => by kernel_rfl
theorem mB_Less : ∀ p w, (method (Try.prog.types.size + Made.depth) 113 (.pointer (some p)) "Less").run Try.prog w = (Sem.load .plain p (fun v => .pure (144, v))).run Try.prog w := fun p w => by kernel_rfl
theorem mB_Swap : ∀ p w, (method (Try.prog.types.size + Made.depth) 113 (.pointer (some p)) "Swap").run Try.prog w = (Sem.load .plain p (fun v => .pure (145, v))).run Try.prog w := fun p w => by kernel_rfl
theorem mB_Push : ∀ p w, (method (Try.prog.types.size + Made.depth) 113 (.pointer p) "Push").run Try.prog w = .ok (147, .pointer p) w := fun p w => by kernel_rfl
theorem mB_Pop : ∀ p w, (method (Try.prog.types.size + Made.depth) 113 (.pointer p) "Pop").run Try.prog w = .ok (146, .pointer p) w := fun p w => by kernel_rfl

theorem HB_len (l : List Wy) (f : Bool) (H0 : List (Nat × Row)) (K : List V) (hl : Lw H0 K) : PM Try.prog HB.pty (.ref 900 0) "Len" [] (HB.H l f H0) K (fun v H' K' => v = .i (l.length : Int) ∧ H' = HB.H l f H0 ∧ K' = K) := by
 rw [HB_H]
 refine PM.val (n := 5) ⟨Try.func143, rfl, rfl, rfl, rfl⟩ (by simp) mB_Len rfl rfl rfl fun w0 out kx => ?_
 refine AW.seq ?_
 refine AW.region ?_
 refine AL.rp rfl rfl (rp_assign rfl rfl) ?_
 refine AL.nil ?_
 try simp only [thenS, S.put, enum, List.nil_append, List.cons_append, List.append_nil, Nat.zero_add, Nat.reduceAdd]
 refine AW.seq ?_
 refine AW.region ?_
 refine AL.rp rfl rfl (rp_move rfl rfl) ?_
 (first | (refine AL.rp rfl rfl (rp_len_map Try.underlying110 rfl rfl (by assumption)) ?_) | (refine AL.rp rfl rfl (rp_len_own Try.underlying110 rfl rfl) ?_) | (refine AL.rp rfl rfl (rp_len_sl Try.underlying110 rfl rfl) ?_) | (refine AL.rp rfl rfl (rp_len_nil Try.underlying110 rfl rfl) ?_) | (refine AL.rp rfl rfl (rp_len_str Try.underlying110 rfl rfl) ?_))
 refine AL.rp rfl rfl (rp_assign rfl rfl) ?_
 refine AL.nil ?_
 try simp only [thenS, S.put]
 refine AW.ret ?_
 exact ⟨[_], ⟨rfl, trivial⟩, rfl, rfl, rfl⟩
theorem HB_less (l : List Wy) (H0 : List (Nat × Row)) (K : List V) (i' j' : Int) (i j : Nat) (x y : Wy) (b : Bool) (hl : Lw H0 K) (hi' : i' = (i : Int)) (hj' : j' = (j : Int)) (hi : l[i]? = some x) (hj : l[j]? = some y) (hb : decide (HB.key x < HB.key y) = b) : PM Try.prog HB.pty (.ref 900 0) "Less" [.i i', .i j'] (HB.H l false H0) K (fun v H' K' => v = .b b ∧ H' = HB.H l false H0 ∧ K' = K) := by
 subst hi' hj' hb
 have h1 := (List.getElem?_eq_some_iff.1 hi).1
 have h2 := (List.getElem?_eq_some_iff.1 hj).1
 rw [HB_H]
 refine PM.val (n := 18) ⟨Try.func144, rfl, rfl, rfl, rfl⟩ (by simp) mB_Less rfl rfl rfl fun w0 out kx => ?_
 refine AW.seq ?_
 refine AW.region ?_
 refine AL.rp rfl rfl (rp_assign rfl rfl) ?_
 refine AL.nil ?_
 try simp only [thenS, S.put, enum, List.nil_append, List.cons_append, List.append_nil, Nat.zero_add, Nat.reduceAdd]
 refine AW.seq ?_
 refine AW.draw [(0, true), (1, true), (2, true), (3, true), (4, true), (5, true), (6, true), (7, true), (8, true), (9, true), (10, true), (11, true)] (fun i => !([] : List Nat).contains i) 12 (by kernel_rfl) (by kernel_rfl) rfl (by kernel_rfl) ?_
 refine AD1.rp rfl rfl rfl (fun _ _ h => h) (rp_move rfl rfl) ?_
 refine AD1.rp rfl rfl rfl (fun _ _ h => h) (rp_move rfl rfl) ?_
 (first | (refine AD1.rp rfl rfl rfl (fun _ _ h => h) (rp_index_map Try.underlying110 inf112 rfl rfl rfl rfl (by assumption)) ?_) | (refine AD1.rp rfl rfl rfl (fun _ _ h => h) (rp_index_own Try.underlying110 inf112 rfl rfl rfl rfl (by first | assumption | omega)) ?_) | (refine AD1.rp rfl rfl rfl (fun _ _ h => h) (rd_index_sl Try.underlying110 inf112 rfl rfl rfl rfl (by assumption)) ?_) | (refine AD1.rp rfl rfl rfl (fun _ _ h => h) (rp_index_own Try.underlying110 inf112 rfl rfl rfl (by omega) (by omega)) ?_))
 (first | (refine AD1.rp rfl rfl rfl (fun _ _ h => h) (rp_field_ref Try.underlying112 rfl rfl rfl inf3 (by decide) rfl) ?_) | (refine AD1.rp rfl rfl rfl (fun _ _ h => h) (rp_field_ad Try.underlying112 rfl rfl rfl inf3 (by decide) rfl) ?_))
 (first | (refine AD1.rd rfl rfl rfl (fun _ _ h => h) (rd_load_ref Try.underlying3 rfl rfl rfl rfl rfl rfl) ?_) | (refine AD1.rd rfl rfl rfl (fun _ _ h => h) (rd_load_ad Try.underlying3 rfl rfl rfl rfl) ?_) | (refine AD1.rd rfl rfl rfl (fun _ _ h => h) (rd_load_map Try.underlying3 rfl rfl rfl rfl rfl rfl (by assumption)) ?_) | (refine AD1.rd rfl rfl rfl (fun _ _ h => h) (rd_load_flat Try.underlying3 rfl rfl rfl rfl rfl rfl (fun _ => rfl) (by assumption) rfl) ?_))
 refine AD1.rp rfl rfl rfl (fun _ _ h => h) (rp_move rfl rfl) ?_
 refine AD1.rp rfl rfl rfl (fun _ _ h => h) (rp_move rfl rfl) ?_
 (first | (refine AD1.rp rfl rfl rfl (fun _ _ h => h) (rp_index_map Try.underlying110 inf112 rfl rfl rfl rfl (by assumption)) ?_) | (refine AD1.rp rfl rfl rfl (fun _ _ h => h) (rp_index_own Try.underlying110 inf112 rfl rfl rfl rfl (by first | assumption | omega)) ?_) | (refine AD1.rp rfl rfl rfl (fun _ _ h => h) (rd_index_sl Try.underlying110 inf112 rfl rfl rfl rfl (by assumption)) ?_) | (refine AD1.rp rfl rfl rfl (fun _ _ h => h) (rp_index_own Try.underlying110 inf112 rfl rfl rfl (by omega) (by omega)) ?_))
 (first | (refine AD1.rp rfl rfl rfl (fun _ _ h => h) (rp_field_ref Try.underlying112 rfl rfl rfl inf3 (by decide) rfl) ?_) | (refine AD1.rp rfl rfl rfl (fun _ _ h => h) (rp_field_ad Try.underlying112 rfl rfl rfl inf3 (by decide) rfl) ?_))
 (first | (refine AD1.rd rfl rfl rfl (fun _ _ h => h) (rd_load_ref Try.underlying3 rfl rfl rfl rfl rfl rfl) ?_) | (refine AD1.rd rfl rfl rfl (fun _ _ h => h) (rd_load_ad Try.underlying3 rfl rfl rfl rfl) ?_) | (refine AD1.rd rfl rfl rfl (fun _ _ h => h) (rd_load_map Try.underlying3 rfl rfl rfl rfl rfl rfl (by assumption)) ?_) | (refine AD1.rd rfl rfl rfl (fun _ _ h => h) (rd_load_flat Try.underlying3 rfl rfl rfl rfl rfl rfl (fun _ => rfl) (by assumption) rfl) ?_))
 (first | (refine AD1.rp rfl rfl rfl (fun _ _ h => h) (rp_lssT rfl rfl rfl (by first | assumption | omega | (dsimp only; omega))) ?_) | (refine AD1.rp rfl rfl rfl (fun _ _ h => h) (rp_lssF rfl rfl rfl (by first | assumption | omega | (dsimp only; omega))) ?_) | (refine AD1.rp rfl rfl rfl (fun _ _ h => h) (rp_lss rfl rfl rfl) ?_))
 refine AD1.rp rfl rfl rfl (fun _ _ h => h) (rp_assign rfl rfl) ?_
 refine AD1.nil ?_
 try simp only [thenS, S.put]
 refine AW.ret ?_
 exact ⟨[_], ⟨rfl, trivial⟩, rfl, rfl, rfl⟩
theorem HB_swap (l : List Wy) (H0 : List (Nat × Row)) (K : List V) (i' j' : Int) (i j : Nat) (x y : Wy) (hl : Lw H0 K) (hi' : i' = (i : Int)) (hj' : j' = (j : Int)) (hi : l[i]? = some x) (hj : l[j]? = some y) : PM Try.prog HB.pty (.ref 900 0) "Swap" [.i i', .i j'] (HB.H l false H0) K (fun v H' K' => H' = HB.H (swp l i j x y) false H0 ∧ K' = K) := by
 subst hi' hj'
 have h1 := (List.getElem?_eq_some_iff.1 hi).1
 have h2 := (List.getElem?_eq_some_iff.1 hj).1
 have h3 : j < (l.set i y).length := by rw [List.length_set]; exact h2
 rw [HB_H]
 refine PM.val (n := 24) ⟨Try.func145, rfl, rfl, rfl, rfl⟩ (by simp) mB_Swap rfl rfl rfl fun w0 out kx => AW.weaken ?_
 refine AW.seq ?_
 refine AW.draw2 (N := ?N1) [0, 1, 2, 3, 4, 5, 6, 7] 8 9 [(9, false), (10, false), (11, false)] [(8, false), (10, false), (11, false)] (fun _ => true) 12 (by kernel_rfl) (by kernel_rfl) rfl rfl (by kernel_rfl) ?_ ?_
 rotate_left
 refine AB1.rp rfl rfl rfl (fun _ _ h => h) (rp_move rfl rfl) ?_
 refine AB1.rp rfl rfl rfl (fun _ _ h => h) (rp_move rfl rfl) ?_
 (first | (refine AB1.rp rfl rfl rfl (fun _ _ h => h) (rp_index_map Try.underlying110 inf112 rfl rfl rfl rfl (by assumption)) ?_) | (refine AB1.rp rfl rfl rfl (fun _ _ h => h) (rp_index_own Try.underlying110 inf112 rfl rfl rfl rfl (by first | assumption | omega)) ?_) | (refine AB1.rp rfl rfl rfl (fun _ _ h => h) (rd_index_sl Try.underlying110 inf112 rfl rfl rfl rfl (by assumption)) ?_) | (refine AB1.rp rfl rfl rfl (fun _ _ h => h) (rp_index_own Try.underlying110 inf112 rfl rfl rfl (by omega) (by omega)) ?_))
 refine AB1.rd rfl rfl rfl (fun _ _ h => h) (rd_loads_flat Try.underlying112 rfl inf112 rfl rfl rfl rfl rfl (fun _ => rfl) (by assumption)) ?_
 refine AB1.rp rfl rfl rfl (fun _ _ h => h) (rp_move rfl rfl) ?_
 refine AB1.rp rfl rfl rfl (fun _ _ h => h) (rp_move rfl rfl) ?_
 (first | (refine AB1.rp rfl rfl rfl (fun _ _ h => h) (rp_index_map Try.underlying110 inf112 rfl rfl rfl rfl (by assumption)) ?_) | (refine AB1.rp rfl rfl rfl (fun _ _ h => h) (rp_index_own Try.underlying110 inf112 rfl rfl rfl rfl (by first | assumption | omega)) ?_) | (refine AB1.rp rfl rfl rfl (fun _ _ h => h) (rd_index_sl Try.underlying110 inf112 rfl rfl rfl rfl (by assumption)) ?_) | (refine AB1.rp rfl rfl rfl (fun _ _ h => h) (rp_index_own Try.underlying110 inf112 rfl rfl rfl (by omega) (by omega)) ?_))
 refine AB1.rd rfl rfl rfl (fun _ _ h => h) (rd_loads_flat Try.underlying112 rfl inf112 rfl rfl rfl rfl rfl (fun _ => rfl) (by assumption)) ?_
 refine AB1.nil ?_ ?_
 refine AD2.new rfl rfl (sg_alloc (l := [.d (.p (.int .i64 0)), .d (.p (.int .i64 0)), .d (.p (.int .i64 0))]) 910 inf112 rfl (by first | rfl | (refine S.clean_hp (L := [_, _]) hl (by decide) ?_ ?_ <;> simp [S.put, S.newObj, S.forget, enum, V.has, V.hasL, junkIf, setL, V.cs, hasL_i, hasL_b, hasL_s, hasL_n, hasL_rep, hasL_flat, hasL_append, -List.map_set]) | (refine S.clean_hp (L := [_, _, _]) hl (by decide) ?_ ?_ <;> simp [S.put, S.newObj, S.forget, enum, V.has, V.hasL, junkIf, setL, V.cs, hasL_i, hasL_b, hasL_s, hasL_n, hasL_rep, hasL_flat, hasL_append, -List.map_set]) | (refine S.clean_hp (L := [_, _, _, _]) hl (by decide) ?_ ?_ <;> simp [S.put, S.newObj, S.forget, enum, V.has, V.hasL, junkIf, setL, V.cs, hasL_i, hasL_b, hasL_s, hasL_n, hasL_rep, hasL_flat, hasL_append, -List.map_set]) | (refine S.clean_hp (L := [_, _, _, _, _]) hl (by decide) ?_ ?_ <;> simp [S.put, S.newObj, S.forget, enum, V.has, V.hasL, junkIf, setL, V.cs, hasL_i, hasL_b, hasL_s, hasL_n, hasL_rep, hasL_flat, hasL_append, -List.map_set]) | (refine S.clean_hp (L := [_, _, _, _, _, _]) hl (by decide) ?_ ?_ <;> simp [S.put, S.newObj, S.forget, enum, V.has, V.hasL, junkIf, setL, V.cs, hasL_i, hasL_b, hasL_s, hasL_n, hasL_rep, hasL_flat, hasL_append, -List.map_set]) | simp [S.put, S.newObj, S.forget, enum, V.has, V.hasL, junkIf, setL, V.cs, hasL_i, hasL_b, hasL_s, hasL_n, hasL_rep, hasL_flat, hasL_append, -List.map_set]) rfl rfl) ?_
 refine AQ.new rfl rfl (sg_alloc (l := [.d (.p (.int .i64 0)), .d (.p (.int .i64 0)), .d (.p (.int .i64 0))]) 911 inf112 rfl (by first | rfl | (refine S.clean_hp (L := [_, _]) hl (by decide) ?_ ?_ <;> simp [S.put, S.newObj, S.forget, enum, V.has, V.hasL, junkIf, setL, V.cs, hasL_i, hasL_b, hasL_s, hasL_n, hasL_rep, hasL_flat, hasL_append, -List.map_set]) | (refine S.clean_hp (L := [_, _, _]) hl (by decide) ?_ ?_ <;> simp [S.put, S.newObj, S.forget, enum, V.has, V.hasL, junkIf, setL, V.cs, hasL_i, hasL_b, hasL_s, hasL_n, hasL_rep, hasL_flat, hasL_append, -List.map_set]) | (refine S.clean_hp (L := [_, _, _, _]) hl (by decide) ?_ ?_ <;> simp [S.put, S.newObj, S.forget, enum, V.has, V.hasL, junkIf, setL, V.cs, hasL_i, hasL_b, hasL_s, hasL_n, hasL_rep, hasL_flat, hasL_append, -List.map_set]) | (refine S.clean_hp (L := [_, _, _, _, _]) hl (by decide) ?_ ?_ <;> simp [S.put, S.newObj, S.forget, enum, V.has, V.hasL, junkIf, setL, V.cs, hasL_i, hasL_b, hasL_s, hasL_n, hasL_rep, hasL_flat, hasL_append, -List.map_set]) | (refine S.clean_hp (L := [_, _, _, _, _, _]) hl (by decide) ?_ ?_ <;> simp [S.put, S.newObj, S.forget, enum, V.has, V.hasL, junkIf, setL, V.cs, hasL_i, hasL_b, hasL_s, hasL_n, hasL_rep, hasL_flat, hasL_append, -List.map_set]) | simp [S.put, S.newObj, S.forget, enum, V.has, V.hasL, junkIf, setL, V.cs, hasL_i, hasL_b, hasL_s, hasL_n, hasL_rep, hasL_flat, hasL_append, -List.map_set]) rfl rfl) (by decide) ?_
 refine AQ2.st rfl rfl (st_store_anyS inf112 rfl rfl rfl rfl rfl rfl rfl rfl (by first | decide | (simp; done) | (simp; omega)) rfl) (by decide) ?_
 refine AQ2.st rfl rfl (st_store_anyS inf112 rfl rfl rfl rfl rfl rfl rfl rfl (by first | decide | (simp; done) | (simp; omega)) rfl) (by decide) ?_
 refine AQ2.nil ?_
 show Less _ _
 (try simp only [S.put, S.newObj, setL, V.cs, List.length_cons, List.length_nil, List.take_succ_cons, List.take_zero, List.drop_succ_cons, List.drop_zero, List.drop_nil, List.nil_append, List.cons_append, List.append_nil, Nat.zero_add, Nat.reduceAdd, List.map_cons, List.map_nil, List.set_cons_zero, List.set_cons_succ])
 exact Less.dropA
 refine AD2.new rfl rfl (sg_alloc (l := [.d (.p (.int .i64 0)), .d (.p (.int .i64 0)), .d (.p (.int .i64 0))]) 911 inf112 rfl (by first | rfl | (refine S.clean_hp (L := [_, _]) hl (by decide) ?_ ?_ <;> simp [S.put, S.newObj, S.forget, enum, V.has, V.hasL, junkIf, setL, V.cs, hasL_i, hasL_b, hasL_s, hasL_n, hasL_rep, hasL_flat, hasL_append, -List.map_set]) | (refine S.clean_hp (L := [_, _, _]) hl (by decide) ?_ ?_ <;> simp [S.put, S.newObj, S.forget, enum, V.has, V.hasL, junkIf, setL, V.cs, hasL_i, hasL_b, hasL_s, hasL_n, hasL_rep, hasL_flat, hasL_append, -List.map_set]) | (refine S.clean_hp (L := [_, _, _, _]) hl (by decide) ?_ ?_ <;> simp [S.put, S.newObj, S.forget, enum, V.has, V.hasL, junkIf, setL, V.cs, hasL_i, hasL_b, hasL_s, hasL_n, hasL_rep, hasL_flat, hasL_append, -List.map_set]) | (refine S.clean_hp (L := [_, _, _, _, _]) hl (by decide) ?_ ?_ <;> simp [S.put, S.newObj, S.forget, enum, V.has, V.hasL, junkIf, setL, V.cs, hasL_i, hasL_b, hasL_s, hasL_n, hasL_rep, hasL_flat, hasL_append, -List.map_set]) | (refine S.clean_hp (L := [_, _, _, _, _, _]) hl (by decide) ?_ ?_ <;> simp [S.put, S.newObj, S.forget, enum, V.has, V.hasL, junkIf, setL, V.cs, hasL_i, hasL_b, hasL_s, hasL_n, hasL_rep, hasL_flat, hasL_append, -List.map_set]) | simp [S.put, S.newObj, S.forget, enum, V.has, V.hasL, junkIf, setL, V.cs, hasL_i, hasL_b, hasL_s, hasL_n, hasL_rep, hasL_flat, hasL_append, -List.map_set]) rfl rfl) ?_
 refine AQ.new rfl rfl (sg_alloc (l := [.d (.p (.int .i64 0)), .d (.p (.int .i64 0)), .d (.p (.int .i64 0))]) 910 inf112 rfl (by first | rfl | (refine S.clean_hp (L := [_, _]) hl (by decide) ?_ ?_ <;> simp [S.put, S.newObj, S.forget, enum, V.has, V.hasL, junkIf, setL, V.cs, hasL_i, hasL_b, hasL_s, hasL_n, hasL_rep, hasL_flat, hasL_append, -List.map_set]) | (refine S.clean_hp (L := [_, _, _]) hl (by decide) ?_ ?_ <;> simp [S.put, S.newObj, S.forget, enum, V.has, V.hasL, junkIf, setL, V.cs, hasL_i, hasL_b, hasL_s, hasL_n, hasL_rep, hasL_flat, hasL_append, -List.map_set]) | (refine S.clean_hp (L := [_, _, _, _]) hl (by decide) ?_ ?_ <;> simp [S.put, S.newObj, S.forget, enum, V.has, V.hasL, junkIf, setL, V.cs, hasL_i, hasL_b, hasL_s, hasL_n, hasL_rep, hasL_flat, hasL_append, -List.map_set]) | (refine S.clean_hp (L := [_, _, _, _, _]) hl (by decide) ?_ ?_ <;> simp [S.put, S.newObj, S.forget, enum, V.has, V.hasL, junkIf, setL, V.cs, hasL_i, hasL_b, hasL_s, hasL_n, hasL_rep, hasL_flat, hasL_append, -List.map_set]) | (refine S.clean_hp (L := [_, _, _, _, _, _]) hl (by decide) ?_ ?_ <;> simp [S.put, S.newObj, S.forget, enum, V.has, V.hasL, junkIf, setL, V.cs, hasL_i, hasL_b, hasL_s, hasL_n, hasL_rep, hasL_flat, hasL_append, -List.map_set]) | simp [S.put, S.newObj, S.forget, enum, V.has, V.hasL, junkIf, setL, V.cs, hasL_i, hasL_b, hasL_s, hasL_n, hasL_rep, hasL_flat, hasL_append, -List.map_set]) rfl rfl) (by decide) ?_
 refine AQ2.st rfl rfl (st_store_anyS inf112 rfl rfl rfl rfl rfl rfl rfl rfl (by first | decide | (simp; done) | (simp; omega)) rfl) (by decide) ?_
 refine AQ2.st rfl rfl (st_store_anyS inf112 rfl rfl rfl rfl rfl rfl rfl rfl (by first | decide | (simp; done) | (simp; omega)) rfl) (by decide) ?_
 refine AQ2.nil ?_
 show Less _ _
 (try simp only [S.put, S.newObj, setL, V.cs, List.length_cons, List.length_nil, List.take_succ_cons, List.take_zero, List.drop_succ_cons, List.drop_zero, List.drop_nil, List.nil_append, List.cons_append, List.append_nil, Nat.zero_add, Nat.reduceAdd, List.map_cons, List.map_nil, List.set_cons_zero, List.set_cons_succ])
 simp only [S.dd, ddL, List.contains_cons, List.contains_nil, Nat.reduceBEq, beq_self_eq_true, Bool.or_false, Bool.or_true, Bool.false_or, Bool.true_or, Bool.or_self, if_true, if_false, Bool.false_eq_true, ↓reduceIte]
 exact Less.dropB (by repeat (first | exact trivial | refine ⟨⟨_, rfl, Wk.refl _⟩, ?_⟩))
 (try simp only [S.put, S.newObj, setL, V.cs, List.length_cons, List.length_nil, List.take_succ_cons, List.take_zero, List.drop_succ_cons, List.drop_zero, List.drop_nil, List.nil_append, List.cons_append, List.append_nil, Nat.zero_add, Nat.reduceAdd, List.map_cons, List.map_nil, List.set_cons_zero, List.set_cons_succ])
 simp only [S.dd, ddL, List.contains_cons, List.contains_nil, Nat.reduceBEq, beq_self_eq_true, Bool.or_false, Bool.or_true, Bool.false_or, Bool.true_or, Bool.or_self, if_true, if_false, Bool.false_eq_true, ↓reduceIte]
 try simp only [thenS, S.put, S.newObj, setL, V.cs, List.length_cons, List.length_nil, List.take_succ_cons, List.take_zero, List.drop_succ_cons, List.drop_zero, List.drop_nil, List.nil_append, List.cons_append, List.append_nil, Nat.zero_add, Nat.reduceAdd, List.map_cons, List.map_nil, List.set_cons_zero, List.set_cons_succ, enum]
 refine AW.seq ?_
 refine AW.region ?_
 refine AL.rp rfl rfl (rp_move rfl rfl) ?_
 refine AL.rp rfl rfl (rp_move rfl rfl) ?_
 (first | (refine AL.rd rfl rfl (rd_loads_ref Try.underlying112 rfl inf112 rfl rfl rfl rfl rfl rfl) ?_) | (refine AL.rd rfl rfl (rd_loads_ad Try.underlying112 rfl inf112 rfl rfl rfl rfl) ?_))
 (first | (refine AL.rp rfl rfl (rp_index_map Try.underlying110 inf112 rfl rfl rfl rfl (by assumption)) ?_) | (refine AL.rp rfl rfl (rp_index_own Try.underlying110 inf112 rfl rfl rfl rfl (by first | assumption | omega)) ?_) | (refine AL.rp rfl rfl (rd_index_sl Try.underlying110 inf112 rfl rfl rfl rfl (by assumption)) ?_) | (refine AL.rp rfl rfl (rp_index_own Try.underlying110 inf112 rfl rfl rfl (by omega) (by omega)) ?_))
 refine AL.st rfl (st_stores_flat (y) inf112 rfl rfl rfl rfl rfl rfl rfl (fun _ => rfl) (by first | assumption | omega | (simp; omega)) rfl) ?_
 refine AL.nil ?_
 try simp only [thenS, S.put, S.newObj, setL, V.cs, List.length_cons, List.length_nil, List.take_succ_cons, List.take_zero, List.drop_succ_cons, List.drop_zero, List.drop_nil, List.nil_append, List.cons_append, List.append_nil, Nat.zero_add, Nat.reduceAdd, List.map_cons, List.map_nil, List.set_cons_zero, List.set_cons_succ]
 refine AW.region ?_
 refine AL.rp rfl rfl (rp_move rfl rfl) ?_
 refine AL.rp rfl rfl (rp_move rfl rfl) ?_
 (first | (refine AL.rd rfl rfl (rd_loads_ref Try.underlying112 rfl inf112 rfl rfl rfl rfl rfl rfl) ?_) | (refine AL.rd rfl rfl (rd_loads_ad Try.underlying112 rfl inf112 rfl rfl rfl rfl) ?_))
 (first | (refine AL.rp rfl rfl (rp_index_map Try.underlying110 inf112 rfl rfl rfl rfl (by assumption)) ?_) | (refine AL.rp rfl rfl (rp_index_own Try.underlying110 inf112 rfl rfl rfl rfl (by first | assumption | omega)) ?_) | (refine AL.rp rfl rfl (rd_index_sl Try.underlying110 inf112 rfl rfl rfl rfl (by assumption)) ?_) | (refine AL.rp rfl rfl (rp_index_own Try.underlying110 inf112 rfl rfl rfl (by omega) (by omega)) ?_))
 refine AL.st rfl (st_stores_flat (x) inf112 rfl rfl rfl rfl rfl rfl rfl (fun _ => rfl) (by first | assumption | omega | (simp; omega)) rfl) ?_
 refine AL.nil ?_
 try simp only [thenS, S.put, S.newObj, setL, V.cs, List.length_cons, List.length_nil, List.take_succ_cons, List.take_zero, List.drop_succ_cons, List.drop_zero, List.drop_nil, List.nil_append, List.cons_append, List.append_nil, Nat.zero_add, Nat.reduceAdd, List.map_cons, List.map_nil, List.set_cons_zero, List.set_cons_succ]
 refine ⟨_, Less.hp (T := []) trivial rfl rfl (fun k row h => hl.low (T := [_, _, _, _, _, _]) (by rfl) k row h), [], trivial, ?_, rfl⟩
 rw [HB_H, swp_len]; rfl
theorem HB_push (l : List Wy) (f : Bool) (H0 : List (Nat × Row)) (K : List V) (x : Wy) (hl : Lw H0 K) (hlen : l.length < 100000000) : PM Try.prog HB.pty (.ref 900 0) "Push" [.d (.p (HB.box x))] (HB.H l f H0) K (fun v H' K' => H' = HB.H (l ++ [x]) false H0 ∧ K' = K) := by
 rw [HB_H]
 refine PM.ptr (n := 13) ⟨Try.func147, rfl, rfl, rfl, rfl⟩ (by simp) mB_Push fun w0 out kx => AW.weaken ?_
 refine AW.drawF [(0, 2), (1, 2), (2, 2), (3, 1), (4, 2), (5, 2), (6, 0), (7, 0), (8, 2), (9, 0)] (fun i => !([7, 9] : List Nat).contains i) 10 (by kernel_rfl) (by kernel_rfl) rfl (by kernel_rfl) ?_
 refine AF1.rp rfl rfl rfl (fun _ _ h => h) (rp_move rfl rfl) ?_
 refine AF1.rp rfl rfl rfl (fun _ _ h => h) (rp_move rfl rfl) ?_
 (first | (refine AF1.rp rfl rfl rfl (fun _ _ h => h) (rp_nilCheck rfl rfl) ?_) | (refine AF1.rp rfl rfl rfl (fun _ _ h => h) (rp_nilCheck_ad rfl rfl) ?_))
 (first | (refine AF1.rd rfl rfl rfl (fun _ _ h => h) (rd_load_ref Try.underlying110 rfl rfl rfl rfl rfl rfl) ?_) | (refine AF1.rd rfl rfl rfl (fun _ _ h => h) (rd_load_ad Try.underlying110 rfl rfl rfl rfl) ?_) | (refine AF1.rd rfl rfl rfl (fun _ _ h => h) (rd_load_map Try.underlying110 rfl rfl rfl rfl rfl rfl (by assumption)) ?_) | (refine AF1.rd rfl rfl rfl (fun _ _ h => h) (rd_load_flat Try.underlying110 rfl rfl rfl rfl rfl rfl (fun _ => rfl) (by assumption) rfl) ?_))
 refine AF1.rp rfl rfl rfl (fun _ _ h => h) (rp_move rfl rfl) ?_
 refine AF1.rp rfl rfl rfl (fun _ _ h => h) (rp_assertA [_, _, _] rfl Try.underlying112 (by intro m h; cases h) rfl) ?_
 refine AF1.go ?_
 refine AF2.sm rfl rfl (sm_slice (vs := [(0, _)]) (zs := [.d (.p (.int .i64 0)), .d (.p (.int .i64 0)), .d (.p (.int .i64 0))]) 910 Try.underlying110 inf112 rfl rfl (by decide) (by decide) (by decide) rfl rfl rfl rfl (by first | rfl | (refine S.clean_hp (L := [_, _]) hl (by decide) ?_ ?_ <;> simp [S.put, S.newObj, S.forget, enum, V.has, V.hasL, junkIf, setL, V.cs, hasL_i, hasL_b, hasL_s, hasL_n, hasL_rep, hasL_flat, hasL_append, -List.map_set]) | (refine S.clean_hp (L := [_, _, _]) hl (by decide) ?_ ?_ <;> simp [S.put, S.newObj, S.forget, enum, V.has, V.hasL, junkIf, setL, V.cs, hasL_i, hasL_b, hasL_s, hasL_n, hasL_rep, hasL_flat, hasL_append, -List.map_set]) | (refine S.clean_hp (L := [_, _, _, _]) hl (by decide) ?_ ?_ <;> simp [S.put, S.newObj, S.forget, enum, V.has, V.hasL, junkIf, setL, V.cs, hasL_i, hasL_b, hasL_s, hasL_n, hasL_rep, hasL_flat, hasL_append, -List.map_set]) | (refine S.clean_hp (L := [_, _, _, _, _]) hl (by decide) ?_ ?_ <;> simp [S.put, S.newObj, S.forget, enum, V.has, V.hasL, junkIf, setL, V.cs, hasL_i, hasL_b, hasL_s, hasL_n, hasL_rep, hasL_flat, hasL_append, -List.map_set]) | (refine S.clean_hp (L := [_, _, _, _, _, _]) hl (by decide) ?_ ?_ <;> simp [S.put, S.newObj, S.forget, enum, V.has, V.hasL, junkIf, setL, V.cs, hasL_i, hasL_b, hasL_s, hasL_n, hasL_rep, hasL_flat, hasL_append, -List.map_set]) | simp [S.put, S.newObj, S.forget, enum, V.has, V.hasL, junkIf, setL, V.cs, hasL_i, hasL_b, hasL_s, hasL_n, hasL_rep, hasL_flat, hasL_append, -List.map_set]) (by first | rfl | (refine S.clean_hp (L := [_, _]) hl (by decide) ?_ ?_ <;> simp [S.put, S.newObj, S.forget, enum, V.has, V.hasL, junkIf, setL, V.cs, hasL_i, hasL_b, hasL_s, hasL_n, hasL_rep, hasL_flat, hasL_append, -List.map_set]) | (refine S.clean_hp (L := [_, _, _]) hl (by decide) ?_ ?_ <;> simp [S.put, S.newObj, S.forget, enum, V.has, V.hasL, junkIf, setL, V.cs, hasL_i, hasL_b, hasL_s, hasL_n, hasL_rep, hasL_flat, hasL_append, -List.map_set]) | (refine S.clean_hp (L := [_, _, _, _]) hl (by decide) ?_ ?_ <;> simp [S.put, S.newObj, S.forget, enum, V.has, V.hasL, junkIf, setL, V.cs, hasL_i, hasL_b, hasL_s, hasL_n, hasL_rep, hasL_flat, hasL_append, -List.map_set]) | (refine S.clean_hp (L := [_, _, _, _, _]) hl (by decide) ?_ ?_ <;> simp [S.put, S.newObj, S.forget, enum, V.has, V.hasL, junkIf, setL, V.cs, hasL_i, hasL_b, hasL_s, hasL_n, hasL_rep, hasL_flat, hasL_append, -List.map_set]) | (refine S.clean_hp (L := [_, _, _, _, _, _]) hl (by decide) ?_ ?_ <;> simp [S.put, S.newObj, S.forget, enum, V.has, V.hasL, junkIf, setL, V.cs, hasL_i, hasL_b, hasL_s, hasL_n, hasL_rep, hasL_flat, hasL_append, -List.map_set]) | simp [S.put, S.newObj, S.forget, enum, V.has, V.hasL, junkIf, setL, V.cs, hasL_i, hasL_b, hasL_s, hasL_n, hasL_rep, hasL_flat, hasL_append, -List.map_set]) rfl) ?_
 refine AF2.go ?_
 refine AF3.st rfl rfl rfl (st_appendF Try.underlying110 inf112 rfl (by decide) rfl rfl rfl rfl rfl rfl (by first | assumption | rfl | (simp; done)) (by first | rfl | (refine S.clean_hp (L := [_, _]) hl (by decide) ?_ ?_ <;> simp [S.put, S.newObj, S.forget, enum, V.has, V.hasL, junkIf, setL, V.cs, hasL_i, hasL_b, hasL_s, hasL_n, hasL_rep, hasL_flat, hasL_append, -List.map_set]) | (refine S.clean_hp (L := [_, _, _]) hl (by decide) ?_ ?_ <;> simp [S.put, S.newObj, S.forget, enum, V.has, V.hasL, junkIf, setL, V.cs, hasL_i, hasL_b, hasL_s, hasL_n, hasL_rep, hasL_flat, hasL_append, -List.map_set]) | (refine S.clean_hp (L := [_, _, _, _]) hl (by decide) ?_ ?_ <;> simp [S.put, S.newObj, S.forget, enum, V.has, V.hasL, junkIf, setL, V.cs, hasL_i, hasL_b, hasL_s, hasL_n, hasL_rep, hasL_flat, hasL_append, -List.map_set]) | (refine S.clean_hp (L := [_, _, _, _, _]) hl (by decide) ?_ ?_ <;> simp [S.put, S.newObj, S.forget, enum, V.has, V.hasL, junkIf, setL, V.cs, hasL_i, hasL_b, hasL_s, hasL_n, hasL_rep, hasL_flat, hasL_append, -List.map_set]) | (refine S.clean_hp (L := [_, _, _, _, _, _]) hl (by decide) ?_ ?_ <;> simp [S.put, S.newObj, S.forget, enum, V.has, V.hasL, junkIf, setL, V.cs, hasL_i, hasL_b, hasL_s, hasL_n, hasL_rep, hasL_flat, hasL_append, -List.map_set]) | simp [S.put, S.newObj, S.forget, enum, V.has, V.hasL, junkIf, setL, V.cs, hasL_i, hasL_b, hasL_s, hasL_n, hasL_rep, hasL_flat, hasL_append, -List.map_set]) rfl rfl rfl rfl rfl (by first | rfl | (refine S.clean_hp (L := [_, _]) hl (by decide) ?_ ?_ <;> simp [S.put, S.newObj, S.forget, enum, V.has, V.hasL, junkIf, setL, V.cs, hasL_i, hasL_b, hasL_s, hasL_n, hasL_rep, hasL_flat, hasL_append, -List.map_set]) | (refine S.clean_hp (L := [_, _, _]) hl (by decide) ?_ ?_ <;> simp [S.put, S.newObj, S.forget, enum, V.has, V.hasL, junkIf, setL, V.cs, hasL_i, hasL_b, hasL_s, hasL_n, hasL_rep, hasL_flat, hasL_append, -List.map_set]) | (refine S.clean_hp (L := [_, _, _, _]) hl (by decide) ?_ ?_ <;> simp [S.put, S.newObj, S.forget, enum, V.has, V.hasL, junkIf, setL, V.cs, hasL_i, hasL_b, hasL_s, hasL_n, hasL_rep, hasL_flat, hasL_append, -List.map_set]) | (refine S.clean_hp (L := [_, _, _, _, _]) hl (by decide) ?_ ?_ <;> simp [S.put, S.newObj, S.forget, enum, V.has, V.hasL, junkIf, setL, V.cs, hasL_i, hasL_b, hasL_s, hasL_n, hasL_rep, hasL_flat, hasL_append, -List.map_set]) | (refine S.clean_hp (L := [_, _, _, _, _, _]) hl (by decide) ?_ ?_ <;> simp [S.put, S.newObj, S.forget, enum, V.has, V.hasL, junkIf, setL, V.cs, hasL_i, hasL_b, hasL_s, hasL_n, hasL_rep, hasL_flat, hasL_append, -List.map_set]) | simp [S.put, S.newObj, S.forget, enum, V.has, V.hasL, junkIf, setL, V.cs, hasL_i, hasL_b, hasL_s, hasL_n, hasL_rep, hasL_flat, hasL_append, -List.map_set]) rfl (by decide) (by omega) (by omega) rfl) ?_
 simp only [S.forget, S.put, S.newObj, List.filter_cons, Nat.reduceBNe, bne_self_eq_false, if_true, if_false, Bool.false_eq_true, ↓reduceIte, List.map_cons, hl.forgetK 901 (by decide), hl.forgetH 901 (by decide)]
 simp only [S.forget, S.put, S.newObj, junkIf, V.has, V.hasL, hasL_i, hasL_b, hasL_s, hasL_d, hasL_n, hasL_rep, hasL_flat, hasL_append, List.map_cons, List.map_nil, List.filter_cons, List.filter_nil, Nat.reduceBNe, Nat.reduceBEq, eq_self, bne_self_eq_false,  Bool.not_true, Bool.not_false, Bool.or_false, Bool.or_true, Bool.false_or, Bool.true_or, if_true, if_false, Bool.false_eq_true, ite_true, ite_false, ↓reduceIte, beq_self_eq_true, Nat.reduceEqDiff]
 (first | (refine AF3.rp rfl rfl rfl (fun _ _ h => h) (rp_nilCheck rfl rfl) ?_) | (refine AF3.rp rfl rfl rfl (fun _ _ h => h) (rp_nilCheck_ad rfl rfl) ?_))
 (first | (refine AF3.st rfl rfl rfl (st_store_map2 inf110 rfl rfl rfl rfl rfl rfl rfl rfl (by first | assumption | omega)) ?_) | (refine AF3.st rfl rfl rfl (st_store inf110 rfl rfl rfl rfl rfl rfl rfl (by first | decide | (simp; done)) rfl) ?_))
 refine AF3.nil ?_
 try simp only [thenS, S.put, S.newObj, setL, V.cs, List.length_cons, List.length_nil, List.take_succ_cons, List.take_zero, List.drop_succ_cons, List.drop_zero, List.drop_nil, List.nil_append, List.cons_append, List.append_nil, Nat.zero_add, Nat.reduceAdd, List.map_cons, List.map_nil, List.set_cons_zero, List.set_cons_succ, enum]
 refine ⟨_, Less.hp (T := []) trivial rfl rfl (fun k row h => hl.low (T := [_, _, _, _]) (by rfl) k row h), [], trivial, ?_, rfl⟩
 rw [HB_H]; simp
theorem HB_pop (l : List Wy) (H0 : List (Nat × Row)) (K : List V) (x : Wy) (hl : Lw H0 K) (hlen : l.length < 100000000) : PM Try.prog HB.pty (.ref 900 0) "Pop" [] (HB.H (l ++ [x]) false H0) K (fun v H' K' => v = .d (.p (HB.box x)) ∧ H' = HB.H l false H0 ∧ K' = K) := by
 have hx : (l ++ [x])[l.length]? = some x := by simp
 have hlast : ((l ++ [x]).length : Int) - 1 = (l.length : Int) := by simp
 have hlt : l.length < (l ++ [x]).length := by simp
 have hle : l.length ≤ (l ++ [x]).length := by simp
 rw [HB_H]
 refine PM.ptr (n := 23) ⟨Try.func146, rfl, rfl, rfl, rfl⟩ (by simp) mB_Pop fun w0 out kx => AW.weaken ?_
 obtain ⟨n, hn⟩ : ∃ n, (l ++ [x]).length = n := ⟨_, rfl⟩
 rw [hn] at hlast hlt hle ⊢
 refine AW.seq ?_
 refine AW.region ?_
 refine AL.rp rfl rfl (rp_assign rfl rfl) ?_
 refine AL.nil ?_
 try simp only [thenS, S.put, enum, List.nil_append, List.cons_append, List.append_nil, Nat.zero_add, Nat.reduceAdd]
 refine AW.seq ?_
 refine AW.region ?_
 refine AL.rp rfl rfl (rp_move rfl rfl) ?_
 (first | (refine AL.rp rfl rfl (rp_nilCheck rfl rfl) ?_) | (refine AL.rp rfl rfl (rp_nilCheck_ad rfl rfl) ?_))
 (first | (refine AL.rd rfl rfl (rd_load_ref Try.underlying110 rfl rfl rfl rfl rfl rfl) ?_) | (refine AL.rd rfl rfl (rd_load_ad Try.underlying110 rfl rfl rfl rfl) ?_) | (refine AL.rd rfl rfl (rd_load_map Try.underlying110 rfl rfl rfl rfl rfl rfl (by assumption)) ?_) | (refine AL.rd rfl rfl (rd_load_flat Try.underlying110 rfl rfl rfl rfl rfl rfl (fun _ => rfl) (by assumption) rfl) ?_))
 refine AL.rp rfl rfl (rp_assign rfl rfl) ?_
 refine AL.nil ?_
 try simp only [thenS, S.put]
 refine AW.seq ?_
 refine AW.region ?_
 refine AL.rp rfl rfl (rp_move rfl rfl) ?_
 refine AL.rp rfl rfl (rp_move rfl rfl) ?_
 (first | (refine AL.rp rfl rfl (rp_len_map Try.underlying110 rfl rfl (by assumption)) ?_) | (refine AL.rp rfl rfl (rp_len_own Try.underlying110 rfl rfl) ?_) | (refine AL.rp rfl rfl (rp_len_sl Try.underlying110 rfl rfl) ?_) | (refine AL.rp rfl rfl (rp_len_nil Try.underlying110 rfl rfl) ?_) | (refine AL.rp rfl rfl (rp_len_str Try.underlying110 rfl rfl) ?_))
 refine AL.rp rfl rfl (rp_sub rfl rfl rfl (by first | omega | (dsimp only; omega))) ?_
 (first | (refine AL.rp rfl rfl (rp_index_own (k := l.length) Try.underlying110 inf112 rfl rfl rfl (by omega) (by omega)) ?_) | (refine AL.rp rfl rfl (rp_index_map (k := l.length) Try.underlying110 inf112 rfl rfl rfl (by omega) (by assumption)) ?_))
 refine AL.rd rfl rfl (rd_loads_flat Try.underlying112 rfl inf112 rfl rfl rfl rfl rfl (fun _ => rfl) (by assumption)) ?_
 refine AL.sm rfl (sm_alloc (l := [.d (.p (.int .i64 0)), .d (.p (.int .i64 0)), .d (.p (.int .i64 0))]) 912 inf112 rfl (by first | rfl | (refine S.clean_hp (L := [_, _]) hl (by decide) ?_ ?_ <;> simp [S.put, S.newObj, S.forget, enum, V.has, V.hasL, junkIf, setL, V.cs, hasL_i, hasL_b, hasL_s, hasL_n, hasL_rep, hasL_flat, hasL_append, -List.map_set]) | (refine S.clean_hp (L := [_, _, _]) hl (by decide) ?_ ?_ <;> simp [S.put, S.newObj, S.forget, enum, V.has, V.hasL, junkIf, setL, V.cs, hasL_i, hasL_b, hasL_s, hasL_n, hasL_rep, hasL_flat, hasL_append, -List.map_set]) | (refine S.clean_hp (L := [_, _, _, _]) hl (by decide) ?_ ?_ <;> simp [S.put, S.newObj, S.forget, enum, V.has, V.hasL, junkIf, setL, V.cs, hasL_i, hasL_b, hasL_s, hasL_n, hasL_rep, hasL_flat, hasL_append, -List.map_set]) | (refine S.clean_hp (L := [_, _, _, _, _]) hl (by decide) ?_ ?_ <;> simp [S.put, S.newObj, S.forget, enum, V.has, V.hasL, junkIf, setL, V.cs, hasL_i, hasL_b, hasL_s, hasL_n, hasL_rep, hasL_flat, hasL_append, -List.map_set]) | (refine S.clean_hp (L := [_, _, _, _, _, _]) hl (by decide) ?_ ?_ <;> simp [S.put, S.newObj, S.forget, enum, V.has, V.hasL, junkIf, setL, V.cs, hasL_i, hasL_b, hasL_s, hasL_n, hasL_rep, hasL_flat, hasL_append, -List.map_set]) | simp [S.put, S.newObj, S.forget, enum, V.has, V.hasL, junkIf, setL, V.cs, hasL_i, hasL_b, hasL_s, hasL_n, hasL_rep, hasL_flat, hasL_append, -List.map_set]) rfl rfl) ?_
 refine AL.st rfl (st_store_any inf112 rfl rfl rfl rfl rfl rfl rfl rfl (by first | decide | (simp; done) | (simp; omega)) rfl) ?_
 refine AL.nil ?_
 try simp only [thenS, S.put, S.newObj, setL, V.cs, List.length_cons, List.length_nil, List.take_succ_cons, List.take_zero, List.drop_succ_cons, List.drop_zero, List.drop_nil, List.nil_append, List.cons_append, List.append_nil, Nat.zero_add, Nat.reduceAdd, List.map_cons, List.map_nil, List.set_cons_zero, List.set_cons_succ]
 refine AW.seq ?_
 refine AW.region ?_
 refine AL.rp rfl rfl (rp_move rfl rfl) ?_
 refine AL.rp rfl rfl (rp_move rfl rfl) ?_
 refine AL.rp rfl rfl (rp_move rfl rfl) ?_
 (first | (refine AL.rp rfl rfl (rp_len_map Try.underlying110 rfl rfl (by assumption)) ?_) | (refine AL.rp rfl rfl (rp_len_own Try.underlying110 rfl rfl) ?_) | (refine AL.rp rfl rfl (rp_len_sl Try.underlying110 rfl rfl) ?_) | (refine AL.rp rfl rfl (rp_len_nil Try.underlying110 rfl rfl) ?_) | (refine AL.rp rfl rfl (rp_len_str Try.underlying110 rfl rfl) ?_))
 refine AL.rp rfl rfl (rp_sub rfl rfl rfl (by first | omega | (dsimp only; omega))) ?_
 refine AL.rd rfl rfl (rp_slice_own (k := l.length) Try.underlying110 inf112 rfl rfl rfl (by first | rfl | omega) (by omega)) ?_
 (first | (refine AL.rp rfl rfl (rp_nilCheck rfl rfl) ?_) | (refine AL.rp rfl rfl (rp_nilCheck_ad rfl rfl) ?_))
 (first | (refine AL.st rfl (st_store_map2 inf110 rfl rfl rfl rfl rfl rfl rfl rfl (by first | assumption | omega)) ?_) | (refine AL.st rfl (st_store inf110 rfl rfl rfl rfl rfl rfl rfl (by first | decide | (simp; done)) rfl) ?_))
 refine AL.nil ?_
 try simp only [thenS, S.put, S.newObj, setL, V.cs, List.length_cons, List.length_nil, List.take_succ_cons, List.take_zero, List.drop_succ_cons, List.drop_zero, List.drop_nil, List.nil_append, List.cons_append, List.append_nil, Nat.zero_add, Nat.reduceAdd, List.map_cons, List.map_nil, List.set_cons_zero, List.set_cons_succ]
 refine AW.seq ?_
 refine AW.region ?_
 (first | (refine AL.rd rfl rfl (rd_loads_ref Try.underlying112 rfl inf112 rfl rfl rfl rfl rfl rfl) ?_) | (refine AL.rd rfl rfl (rd_loads_ad Try.underlying112 rfl inf112 rfl rfl rfl rfl) ?_))
 (first | (refine AL.rp rfl rfl (rp_mkP rfl rfl (fun _ _ => by kernel_rfl)) ?_) | (refine AL.rp rfl rfl (rp_mkA [_, _, _] rfl rfl rfl (fun _ _ => by kernel_rfl)) ?_) | (refine AL.rp rfl rfl (rp_mkIfc rfl rfl (fun _ _ => by kernel_rfl)) ?_))
 refine AL.rp rfl rfl (rp_assign rfl rfl) ?_
 refine AL.nil ?_
 try simp only [thenS, S.put]
 refine AW.ret ?_
 refine ⟨_, Less.hpc (l.flatMap wyV) (T := [(2, _)]) ⟨⟨_, rfl, Wk.refl _⟩, trivial⟩ rfl rfl ⟨wyV x, by simp⟩ (fun k row h => hl.low (T := [_, _, _, _, _]) (by rfl) k row h), [_], ⟨rfl, trivial⟩, rfl, ?_, rfl⟩
 rw [HB_H]
theorem HB_ok : HIok HB := ⟨HB_len, HB_less, HB_swap, HB_push, HB_pop⟩

theorem lowL_wy {b : Nat} (l : List Wy) : V.lowL b (l.flatMap wyV) = true := by
 induction l with
 | nil => rfl
 | cons x l ih => rw [List.flatMap_cons]; simp only [List.cons_append, List.nil_append, V.lowL, ih, Bool.and_true]; rfl
abbrev hpBl (l : List Wy) (f : Bool) (H0 : List (Nat × Row)) : List (Nat × Row) := (900, ⟨110, [.own 901 3 l.length f], false, 0⟩) :: (901, ⟨112, l.flatMap wyV, f, 3⟩) :: H0
theorem am_pushB {H0 : List (Nat × Row)} {K : List V} (hl : Lw H0 K) (l : List Wy) (f : Bool) (x : Wy) (hlen : l.length < 100000000) (hh : Hp HB.key l) : PC Try.prog 72 [.ifc 113 (.ref 900 0), .d (.p (wyB x))] (hpBl l f H0) K (fun v H' K' => ∃ l', Hp HB.key l' ∧ l'.Perm (x :: l) ∧ H' = hpBl l' false H0 ∧ K' = K) := by
 have := am_hpPush HB_ok hl l f x hlen hh
 simp only [HB_H] at this
 exact this
theorem am_popB {H0 : List (Nat × Row)} {K : List V} (hl : Lw H0 K) (l : List Wy) (x : Wy) (hlen : l.length ≤ 100000000) (hh : Hp HB.key l) (hx : l[0]? = some x) : PC Try.prog 73 [.ifc 113 (.ref 900 0)] (hpBl l false H0) K (fun v H' K' => v = .d (.p (wyB x)) ∧ ∃ l', Hp HB.key l' ∧ l.Perm (x :: l') ∧ H' = hpBl l' false H0 ∧ K' = K) := by
 have := am_hpPop HB_ok hl l x hlen hh hx
 simp only [HB_H] at this
 exact this
end Go.Proofs.Ytnpbdcjfealoeaa
