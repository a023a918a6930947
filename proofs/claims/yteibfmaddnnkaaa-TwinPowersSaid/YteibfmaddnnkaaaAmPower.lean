/- twin.Power and the document's, each weight n times. -/
import Derived.Test.YteibfmaddnnkaaaAmTwin
namespace Go.Proofs.Yteibfmaddnnkaaa
open Go.RowKit
set_option linter.unusedSimpArgs false
set_option linter.unusedVariables false
set_option maxRecDepth 100000
-- %hmode

theorem am_timesT (a b x y : Int) (ha : 0 ≤ a ∧ a ≤ 1000000000) (hb : 0 ≤ b ∧ b ≤ 1000000000) (hx : 0 ≤ x ∧ x ≤ 1000000000) (hy : 0 ≤ y ∧ y ≤ 1000000000) (h : a + x ≤ 1000000000 ∧ b + y ≤ 1000000000) : Fn Try.prog 124 [.agg [], .agg [.i a, .i b], .agg [.i x, .i y]] (fun v => v = .tup [.agg [.i (a + x), .i (b + y)], .b true]) :=
 Fn.eqv (am_times a b x y ha hb hx hy) (by simp [h])
theorem am_timesF (a b x y : Int) (ha : 0 ≤ a ∧ a ≤ 1000000000) (hb : 0 ≤ b ∧ b ≤ 1000000000) (hx : 0 ≤ x ∧ x ≤ 1000000000) (hy : 0 ≤ y ∧ y ≤ 1000000000) (h : ¬ (a + x ≤ 1000000000 ∧ b + y ≤ 1000000000)) : Fn Try.prog 124 [.agg [], .agg [.i a, .i b], .agg [.i x, .i y]] (fun v => v = .tup [.agg [.i (a + x), .i (b + y)], .b false]) :=
 Fn.eqv (am_times a b x y ha hb hx hy) (by simp [h])

/-- Powers by squaring. -/
structure Pw (x y N n m p : Int) : Prop where
 n0 : 0 ≤ n
 m0 : 0 ≤ m
 p1 : 1 ≤ p
 sum : N = m + n * p
theorem Pw.odd {x y N n m p : Int} (h : Pw x y N n m p) (hn : n % 2 = 1) : Pw x y N (n / 2) (m + p) (2 * p) := by
 obtain ⟨h1, h2, h3, h4⟩ := h
 obtain ⟨k, hk⟩ : ∃ k, n / 2 = k := ⟨_, rfl⟩
 obtain rfl : n = 2 * k + 1 := by omega
 refine ⟨by omega, by omega, by omega, ?_⟩
 rw [hk, h4, Int.add_mul, Int.one_mul, Int.mul_assoc, Int.mul_left_comm k 2 p]
 omega
theorem Pw.even {x y N n m p : Int} (h : Pw x y N n m p) (hn : ¬ n % 2 = 1) : Pw x y N (n / 2) m (2 * p) := by
 obtain ⟨h1, h2, h3, h4⟩ := h
 obtain ⟨k, hk⟩ : ∃ k, n / 2 = k := ⟨_, rfl⟩
 obtain rfl : n = 2 * k := by omega
 refine ⟨by omega, by omega, by omega, ?_⟩
 rw [hk, h4, Int.mul_assoc, Int.mul_left_comm k 2 p]
theorem Pw.le {x y N n m p : Int} (h : Pw x y N n m p) (hn : 0 < n) : m + p ≤ N := by
 obtain ⟨h1, h2, h3, h4⟩ := h
 have : 1 * p ≤ n * p := Int.mul_le_mul_of_nonneg_right (by omega) (by omega)
 omega
theorem Pw.done {x y N m p : Int} (h : Pw x y N 0 m p) : N = m := by
 have := h.sum
 omega
theorem over_le {x p N : Int} (hx : 0 ≤ x) (h : p ≤ N) (ho : 1000000000 < x * p) : 1000000000 < x * N := by
 have := Int.mul_le_mul_of_nonneg_left h hx
 omega
theorem mul2 (x p : Int) : x * (2 * p) = x * p + x * p := by rw [Int.two_mul, Int.mul_add]
theorem mul_nn {x p : Int} (hx : 0 ≤ x) (hp : 0 ≤ p) : 0 ≤ x * p := Int.mul_nonneg hx hp

abbrev twI : V := .d (.p (.iface 102 (.agg #[])))
theorem am_power_none (N : Int) (hN : 0 ≤ N ∧ N ≤ 1000000000) : Fn Try.prog 53 [twI, .agg [.i 1000000001, .i 1000000001], .i N] (fun v => v = .tup [.agg [.i (if N = 0 then 0 else 1000000001), .i (if N = 0 then 0 else 1000000001)], .b true]) := by
 have hsq := am_times_none 1000000001 1000000001 1000000001 1000000001 (.inl ⟨rfl, rfl⟩)
 have hnn : (1000000001 : Int) = 1000000001 ∧ (1000000001 : Int) = 1000000001 := ⟨rfl, rfl⟩
 refine Fn.intro (n := 46) ⟨Try.func53, rfl, rfl, rfl, rfl⟩ (by simp [V.pure, V.has, V.hasL]) (by simp) fun w0 out => ?_
 refine AW.seq ?_
 refine AW.region ?_
 refine AL.sm rfl (sm_box 4 rfl rfl rfl (by first | rfl | simp [S.clean, S.put, S.newObj, S.forget, V.has, V.hasL, junkIf, setL, V.cs, hasL_i, hasL_b, hasL_s, hasL_n, hasL_rep, hasL_flat, hasL_append, -List.map_set]) rfl) ?_
 refine AL.sm rfl (sm_alloc (l := [.d (.p (.int .i64 0)), .d (.p (.int .i64 0))]) 6 inf49 rfl (by first | rfl | simp [S.clean, S.put, S.newObj, S.forget, V.has, V.hasL, junkIf, setL, V.cs, hasL_i, hasL_b, hasL_s, hasL_n, hasL_rep, hasL_flat, hasL_append, -List.map_set]) rfl rfl) ?_
 refine AL.rp rfl rfl (rp_assign rfl rfl) ?_
 refine AL.nil ?_
 try simp only [thenS, S.put, S.newObj, setL, V.cs, List.length_cons, List.length_nil, List.take_succ_cons, List.take_zero, List.drop_succ_cons, List.drop_zero, List.drop_nil, List.nil_append, List.cons_append, List.append_nil, Nat.zero_add, Nat.reduceAdd, List.map_cons, List.map_nil, List.set_cons_zero, List.set_cons_succ, enum]
 refine AW.seq ?_
 refine AW.region ?_
 refine AL.rp rfl rfl (rp_move rfl rfl) ?_
 refine AL.call (post := ?pc0) rfl (sm_invoke (rv := .agg []) (args := []) ?hc0 ⟨Try.func123, rfl, rfl, rfl, rfl⟩ rfl rfl (fun w => mtd_one w) agg0 rfl rfl) ?_
 case hc0 => exact am_one
 rintro _ rfl -
 try dsimp only
 refine AL.sm rfl (sm_alloc (l := [.d (.p (.int .i64 0)), .d (.p (.int .i64 0))]) 8 inf49 rfl (by first | rfl | simp [S.clean, S.put, S.newObj, S.forget, V.has, V.hasL, junkIf, setL, V.cs, hasL_i, hasL_b, hasL_s, hasL_n, hasL_rep, hasL_flat, hasL_append, -List.map_set]) rfl rfl) ?_
 refine AL.st rfl (st_store_any inf49 rfl rfl rfl rfl rfl rfl rfl rfl (by first | decide | (simp; done) | (simp; omega)) rfl) ?_
 refine AL.rp rfl rfl (rp_assign rfl rfl) ?_
 refine AL.nil ?_
 try simp only [thenS, S.put, S.newObj, setL, V.cs, List.length_cons, List.length_nil, List.take_succ_cons, List.take_zero, List.drop_succ_cons, List.drop_zero, List.drop_nil, List.nil_append, List.cons_append, List.append_nil, Nat.zero_add, Nat.reduceAdd, List.map_cons, List.map_nil, List.set_cons_zero, List.set_cons_succ]
 refine AW.seq ?_
 refine AW.region ?_
 refine AL.rp rfl rfl (rp_assign rfl rfl) ?_
 refine AL.nil ?_
 try simp only [thenS, S.put]
 refine AW.seq ?_
 refine AW.block ?_
 refine AW.loop (fun s' => ∃ (n o : Int), 0 ≤ n ∧ n ≤ 1000000000 ∧ (o = 0 ∧ (n = 0 ↔ N = 0) ∨ o = 1000000001 ∧ N ≠ 0) ∧ s' = ⟨46, [(0, twI), (2, .i n), (4, .ref 4 0), (6, .ref 6 0), (8, .ref 8 0), (10, .b true)], [(4, ⟨49, [.i 1000000001, .i 1000000001], false, 0⟩), (6, ⟨49, [.i 0, .i 0], false, 0⟩), (8, ⟨49, [.i o, .i o], false, 0⟩)], []⟩) (fun s' => s'.nat 2) ⟨_, ?_, N, 0, by omega, by omega, .inl ⟨rfl, Iff.rfl⟩, rfl⟩ ?_
 ·exact (Less.of rfl (by repeat (first | exact trivial | refine ⟨⟨_, rfl, Wk.refl _⟩, ?_⟩ | refine ⟨⟨_, rfl, Wk.nil _ _⟩, ?_⟩ | refine ⟨⟨_, rfl, Wk.junk _⟩, ?_⟩)) (by repeat (first | exact trivial | refine ⟨rfl, ?_⟩)) rfl)
 rintro s' ⟨n, o, hn0, hnM, ho, rfl⟩
 by_cases hpos : 0 < n
 ·have hN0 : N ≠ 0 := by omega
  by_cases hodd : n % 2 = 1
  ·have hmul := am_times_none o o 1000000001 1000000001 (by omega)
   refine AW.seq ?_
   refine AW.seq ?_
   refine AW.region ?_
   refine AL.rp rfl rfl (rp_move rfl rfl) ?_
   (first | (refine AL.rp rfl rfl (rp_gtrT rfl rfl rfl (by first | assumption | omega | (dsimp only; omega))) ?_) | (refine AL.rp rfl rfl (rp_gtrF rfl rfl rfl (by first | assumption | omega | (dsimp only; omega))) ?_) | (refine AL.rp rfl rfl (rp_gtr rfl rfl rfl) ?_))
   refine AL.nil ?_
   try simp only [thenS, S.put]
   refine AW.condT rfl ?_
   refine AW.skip ?_
   try simp only [thenS]
   refine AW.seq ?_
   refine AW.block ?_
   refine AW.seq ?_
   refine AW.seq ?_
   refine AW.region ?_
   refine AL.rp rfl rfl (rp_move rfl rfl) ?_
   refine AL.rp rfl rfl (rp_rem rfl rfl rfl (by omega)) ?_
   (first | (refine AL.rp rfl rfl (rp_eqlT rfl rfl rfl (by first | assumption | omega | (dsimp only; omega))) ?_) | (refine AL.rp rfl rfl (rp_eqlF rfl rfl rfl (by first | assumption | omega | (dsimp only; omega))) ?_) | (refine AL.rp rfl rfl (rp_eql rfl rfl rfl) ?_))
   refine AL.nil ?_
   try simp only [thenS, S.put]
   refine AW.condT rfl ?_
   refine AW.seq ?_
   refine AW.seq ?_
   refine AW.region ?_
   refine AL.rp rfl rfl (rp_move rfl rfl) ?_
   refine AL.rp rfl rfl (rp_not rfl rfl) ?_
   refine AL.nil ?_
   try simp only [thenS, S.put]
   refine AW.condF rfl ?_
   refine AW.skip ?_
   try simp only [thenS]
   refine AW.seq ?_
   refine AW.region ?_
   refine AL.rp rfl rfl (rp_move rfl rfl) ?_
   (first | (refine AL.rd rfl rfl (rd_loads_ref Try.underlying49 rfl inf49 rfl rfl rfl rfl rfl rfl) ?_) | (refine AL.rd rfl rfl (rd_loads_ad Try.underlying49 rfl inf49 rfl rfl rfl rfl) ?_))
   (first | (refine AL.rd rfl rfl (rd_loads_ref Try.underlying49 rfl inf49 rfl rfl rfl rfl rfl rfl) ?_) | (refine AL.rd rfl rfl (rd_loads_ad Try.underlying49 rfl inf49 rfl rfl rfl rfl) ?_))
   refine AL.call (post := ?pc1) rfl (sm_invoke (rv := .agg []) (args := [_, _]) ?hc1 ⟨Try.func124, rfl, rfl, rfl, rfl⟩ rfl rfl (fun w => mtd_times w) agg0 rfl rfl) ?_
   case hc1 => exact hmul
   rintro _ rfl -
   try dsimp only
   refine AL.rp rfl rfl (rp_move rfl rfl) ?_
   refine AL.rp rfl rfl (rp_extract rfl rfl rfl) ?_
   refine AL.rp rfl rfl (rp_extract rfl rfl rfl) ?_
   refine AL.st rfl (st_store_any inf49 rfl rfl rfl rfl rfl rfl rfl rfl (by first | decide | (simp; done) | (simp; omega)) rfl) ?_
   refine AL.rp rfl rfl (rp_assign rfl rfl) ?_
   refine AL.nil ?_
   try simp only [thenS, S.put, S.newObj, setL, V.cs, List.length_cons, List.length_nil, List.take_succ_cons, List.take_zero, List.drop_succ_cons, List.drop_zero, List.drop_nil, List.nil_append, List.cons_append, List.append_nil, Nat.zero_add, Nat.reduceAdd, List.map_cons, List.map_nil, List.set_cons_zero, List.set_cons_succ]
   refine AW.seq ?_
   refine AW.region ?_
   refine AL.rp rfl rfl (rp_move rfl rfl) ?_
   refine AL.rp rfl rfl (rp_not rfl rfl) ?_
   refine AL.nil ?_
   try simp only [thenS, S.put]
   refine AW.condF rfl ?_
   refine AW.skip ?_
   try simp only [thenS]
   refine AW.seq ?_
   refine AW.region ?_
   refine AL.rp rfl rfl (rp_move rfl rfl) ?_
   refine AL.nil ?_
   try simp only [thenS, S.put]
   refine AW.condT rfl ?_
   refine AW.seq ?_
   refine AW.region ?_
   refine AL.rp rfl rfl (rp_move rfl rfl) ?_
   (first | (refine AL.rd rfl rfl (rd_loads_ref Try.underlying49 rfl inf49 rfl rfl rfl rfl rfl rfl) ?_) | (refine AL.rd rfl rfl (rd_loads_ad Try.underlying49 rfl inf49 rfl rfl rfl rfl) ?_))
   (first | (refine AL.rd rfl rfl (rd_loads_ref Try.underlying49 rfl inf49 rfl rfl rfl rfl rfl rfl) ?_) | (refine AL.rd rfl rfl (rd_loads_ad Try.underlying49 rfl inf49 rfl rfl rfl rfl) ?_))
   refine AL.call (post := ?pc2) rfl (sm_invoke (rv := .agg []) (args := [_, _]) ?hc2 ⟨Try.func124, rfl, rfl, rfl, rfl⟩ rfl rfl (fun w => mtd_times w) agg0 rfl rfl) ?_
   case hc2 => exact hsq
   rintro _ rfl -
   try dsimp only
   refine AL.rp rfl rfl (rp_move rfl rfl) ?_
   refine AL.rp rfl rfl (rp_extract rfl rfl rfl) ?_
   refine AL.rp rfl rfl (rp_extract rfl rfl rfl) ?_
   refine AL.sm rfl (sm_alloc (l := [.d (.p (.int .i64 0)), .d (.p (.int .i64 0))]) 11 inf49 rfl (by first | rfl | simp [S.clean, S.put, S.newObj, S.forget, V.has, V.hasL, junkIf, setL, V.cs, hasL_i, hasL_b, hasL_s, hasL_n, hasL_rep, hasL_flat, hasL_append, -List.map_set]) rfl rfl) ?_
   refine AL.st rfl (st_store_any inf49 rfl rfl rfl rfl rfl rfl rfl rfl (by first | decide | (simp; done) | (simp; omega)) rfl) ?_
   refine AL.rp rfl rfl (rp_assign rfl rfl) ?_
   refine AL.nil ?_
   try simp only [thenS, S.put, S.newObj, setL, V.cs, List.length_cons, List.length_nil, List.take_succ_cons, List.take_zero, List.drop_succ_cons, List.drop_zero, List.drop_nil, List.nil_append, List.cons_append, List.append_nil, Nat.zero_add, Nat.reduceAdd, List.map_cons, List.map_nil, List.set_cons_zero, List.set_cons_succ]
   refine AW.seq ?_
   refine AW.region ?_
   refine AL.rp rfl rfl (rp_move rfl rfl) ?_
   refine AL.nil ?_
   try simp only [thenS, S.put]
   refine AW.condT rfl ?_
   refine AW.region ?_
   (first | (refine AL.rd rfl rfl (rd_loads_ref Try.underlying49 rfl inf49 rfl rfl rfl rfl rfl rfl) ?_) | (refine AL.rd rfl rfl (rd_loads_ad Try.underlying49 rfl inf49 rfl rfl rfl rfl) ?_))
   refine AL.st rfl (st_store_any inf49 rfl rfl rfl rfl rfl rfl rfl rfl (by first | decide | (simp; done) | (simp; omega)) rfl) ?_
   refine AL.nil ?_
   try simp only [thenS, S.put, S.newObj, setL, V.cs, List.length_cons, List.length_nil, List.take_succ_cons, List.take_zero, List.drop_succ_cons, List.drop_zero, List.drop_nil, List.nil_append, List.cons_append, List.append_nil, Nat.zero_add, Nat.reduceAdd, List.map_cons, List.map_nil, List.set_cons_zero, List.set_cons_succ]
   refine AW.region ?_
   refine AL.rp rfl rfl (rp_move rfl rfl) ?_
   refine AL.rp rfl rfl (rp_quo rfl rfl rfl (by omega)) ?_
   refine AL.rp rfl rfl (rp_assign rfl rfl) ?_
   refine AL.nil ?_
   try simp only [thenS, S.put]
   refine ⟨_, ?_, ⟨n / 2, 1000000001, by omega, by omega, .inr ⟨rfl, hN0⟩, rfl⟩, ?_⟩
   ·exact (Less.of rfl (by repeat (first | exact trivial | refine ⟨⟨_, rfl, Wk.refl _⟩, ?_⟩ | refine ⟨⟨_, rfl, Wk.nil _ _⟩, ?_⟩ | refine ⟨⟨_, rfl, Wk.junk _⟩, ?_⟩)) (by repeat (first | exact trivial | refine ⟨rfl, ?_⟩)) rfl)
   ·simp [S.nat, fnd]; omega
  ·skip
   refine AW.seq ?_
   refine AW.seq ?_
   refine AW.region ?_
   refine AL.rp rfl rfl (rp_move rfl rfl) ?_
   (first | (refine AL.rp rfl rfl (rp_gtrT rfl rfl rfl (by first | assumption | omega | (dsimp only; omega))) ?_) | (refine AL.rp rfl rfl (rp_gtrF rfl rfl rfl (by first | assumption | omega | (dsimp only; omega))) ?_) | (refine AL.rp rfl rfl (rp_gtr rfl rfl rfl) ?_))
   refine AL.nil ?_
   try simp only [thenS, S.put]
   refine AW.condT rfl ?_
   refine AW.skip ?_
   try simp only [thenS]
   refine AW.seq ?_
   refine AW.block ?_
   refine AW.seq ?_
   refine AW.seq ?_
   refine AW.region ?_
   refine AL.rp rfl rfl (rp_move rfl rfl) ?_
   refine AL.rp rfl rfl (rp_rem rfl rfl rfl (by omega)) ?_
   (first | (refine AL.rp rfl rfl (rp_eqlT rfl rfl rfl (by first | assumption | omega | (dsimp only; omega))) ?_) | (refine AL.rp rfl rfl (rp_eqlF rfl rfl rfl (by first | assumption | omega | (dsimp only; omega))) ?_) | (refine AL.rp rfl rfl (rp_eql rfl rfl rfl) ?_))
   refine AL.nil ?_
   try simp only [thenS, S.put]
   refine AW.condF rfl ?_
   refine AW.skip ?_
   try simp only [thenS]
   refine AW.seq ?_
   refine AW.region ?_
   refine AL.rp rfl rfl (rp_move rfl rfl) ?_
   refine AL.nil ?_
   try simp only [thenS, S.put]
   refine AW.condT rfl ?_
   refine AW.seq ?_
   refine AW.region ?_
   refine AL.rp rfl rfl (rp_move rfl rfl) ?_
   (first | (refine AL.rd rfl rfl (rd_loads_ref Try.underlying49 rfl inf49 rfl rfl rfl rfl rfl rfl) ?_) | (refine AL.rd rfl rfl (rd_loads_ad Try.underlying49 rfl inf49 rfl rfl rfl rfl) ?_))
   (first | (refine AL.rd rfl rfl (rd_loads_ref Try.underlying49 rfl inf49 rfl rfl rfl rfl rfl rfl) ?_) | (refine AL.rd rfl rfl (rd_loads_ad Try.underlying49 rfl inf49 rfl rfl rfl rfl) ?_))
   refine AL.call (post := ?pc3) rfl (sm_invoke (rv := .agg []) (args := [_, _]) ?hc3 ⟨Try.func124, rfl, rfl, rfl, rfl⟩ rfl rfl (fun w => mtd_times w) agg0 rfl rfl) ?_
   case hc3 => exact hsq
   rintro _ rfl -
   try dsimp only
   refine AL.rp rfl rfl (rp_move rfl rfl) ?_
   refine AL.rp rfl rfl (rp_extract rfl rfl rfl) ?_
   refine AL.rp rfl rfl (rp_extract rfl rfl rfl) ?_
   refine AL.sm rfl (sm_alloc (l := [.d (.p (.int .i64 0)), .d (.p (.int .i64 0))]) 11 inf49 rfl (by first | rfl | simp [S.clean, S.put, S.newObj, S.forget, V.has, V.hasL, junkIf, setL, V.cs, hasL_i, hasL_b, hasL_s, hasL_n, hasL_rep, hasL_flat, hasL_append, -List.map_set]) rfl rfl) ?_
   refine AL.st rfl (st_store_any inf49 rfl rfl rfl rfl rfl rfl rfl rfl (by first | decide | (simp; done) | (simp; omega)) rfl) ?_
   refine AL.rp rfl rfl (rp_assign rfl rfl) ?_
   refine AL.nil ?_
   try simp only [thenS, S.put, S.newObj, setL, V.cs, List.length_cons, List.length_nil, List.take_succ_cons, List.take_zero, List.drop_succ_cons, List.drop_zero, List.drop_nil, List.nil_append, List.cons_append, List.append_nil, Nat.zero_add, Nat.reduceAdd, List.map_cons, List.map_nil, List.set_cons_zero, List.set_cons_succ]
   refine AW.seq ?_
   refine AW.region ?_
   refine AL.rp rfl rfl (rp_move rfl rfl) ?_
   refine AL.nil ?_
   try simp only [thenS, S.put]
   refine AW.condT rfl ?_
   refine AW.region ?_
   (first | (refine AL.rd rfl rfl (rd_loads_ref Try.underlying49 rfl inf49 rfl rfl rfl rfl rfl rfl) ?_) | (refine AL.rd rfl rfl (rd_loads_ad Try.underlying49 rfl inf49 rfl rfl rfl rfl) ?_))
   refine AL.st rfl (st_store_any inf49 rfl rfl rfl rfl rfl rfl rfl rfl (by first | decide | (simp; done) | (simp; omega)) rfl) ?_
   refine AL.nil ?_
   try simp only [thenS, S.put, S.newObj, setL, V.cs, List.length_cons, List.length_nil, List.take_succ_cons, List.take_zero, List.drop_succ_cons, List.drop_zero, List.drop_nil, List.nil_append, List.cons_append, List.append_nil, Nat.zero_add, Nat.reduceAdd, List.map_cons, List.map_nil, List.set_cons_zero, List.set_cons_succ]
   refine AW.region ?_
   refine AL.rp rfl rfl (rp_move rfl rfl) ?_
   refine AL.rp rfl rfl (rp_quo rfl rfl rfl (by omega)) ?_
   refine AL.rp rfl rfl (rp_assign rfl rfl) ?_
   refine AL.nil ?_
   try simp only [thenS, S.put]
   refine ⟨_, ?_, ⟨n / 2, o, by omega, by omega, by omega, rfl⟩, ?_⟩
   ·exact (Less.of rfl (by repeat (first | exact trivial | refine ⟨⟨_, rfl, Wk.refl _⟩, ?_⟩ | refine ⟨⟨_, rfl, Wk.nil _ _⟩, ?_⟩ | refine ⟨⟨_, rfl, Wk.junk _⟩, ?_⟩)) (by repeat (first | exact trivial | refine ⟨rfl, ?_⟩)) rfl)
   ·simp [S.nat, fnd]; omega
 ·have ho' : o = if N = 0 then 0 else 1000000001 := by split <;> omega
  refine AW.seq ?_
  refine AW.seq ?_
  refine AW.region ?_
  refine AL.rp rfl rfl (rp_move rfl rfl) ?_
  (first | (refine AL.rp rfl rfl (rp_gtrT rfl rfl rfl (by first | assumption | omega | (dsimp only; omega))) ?_) | (refine AL.rp rfl rfl (rp_gtrF rfl rfl rfl (by first | assumption | omega | (dsimp only; omega))) ?_) | (refine AL.rp rfl rfl (rp_gtr rfl rfl rfl) ?_))
  refine AL.nil ?_
  try simp only [thenS, S.put]
  refine AW.condF rfl ?_
  refine AW.exit ?_
  try simp only [thenS, inBlockS, ↓reduceIte, Nat.reduceEqDiff]
  refine AW.seq ?_
  refine AW.region ?_
  (first | (refine AL.rd rfl rfl (rd_loads_ref Try.underlying49 rfl inf49 rfl rfl rfl rfl rfl rfl) ?_) | (refine AL.rd rfl rfl (rd_loads_ad Try.underlying49 rfl inf49 rfl rfl rfl rfl) ?_))
  refine AL.st rfl (st_store_any inf49 rfl rfl rfl rfl rfl rfl rfl rfl (by first | decide | (simp; done) | (simp; omega)) rfl) ?_
  refine AL.rp rfl rfl (rp_assign rfl rfl) ?_
  refine AL.nil ?_
  try simp only [thenS, S.put, S.newObj, setL, V.cs, List.length_cons, List.length_nil, List.take_succ_cons, List.take_zero, List.drop_succ_cons, List.drop_zero, List.drop_nil, List.nil_append, List.cons_append, List.append_nil, Nat.zero_add, Nat.reduceAdd, List.map_cons, List.map_nil, List.set_cons_zero, List.set_cons_succ]
  refine AW.ret ?_
  exact ⟨[_, _], ⟨⟨6, 0, _, _, rfl, rfl, rfl, Try.underlying49, .inr ⟨rfl, _, _, _, _, inf49, rfl, rfl, rfl⟩⟩, rfl, trivial⟩, by rw [← ho'] <;> rfl, by simp [tupOf, V.pure, V.has, V.hasL]⟩
theorem am_power (x y N : Int) (hx : 0 ≤ x ∧ x ≤ 1000000000) (hy : 0 ≤ y ∧ y ≤ 1000000000) (hN : 0 ≤ N ∧ N ≤ 1000000000) : Fn Try.prog 53 [twI, .agg [.i x, .i y], .i N] (fun v => ∃ r1 r2 ok, v = .tup [.agg [.i r1, .i r2], .b ok] ∧ (ok = true → r1 = x * N ∧ r2 = y * N ∧ r1 ≤ 1000000000 ∧ r2 ≤ 1000000000) ∧ (ok = false → 1000000000 < x * N ∨ 1000000000 < y * N)) := by
 refine Fn.intro (n := 46) ⟨Try.func53, rfl, rfl, rfl, rfl⟩ (by simp [V.pure, V.has, V.hasL]) (by simp) fun w0 out => ?_
 refine AW.seq ?_
 refine AW.region ?_
 refine AL.sm rfl (sm_box 4 rfl rfl rfl (by first | rfl | simp [S.clean, S.put, S.newObj, S.forget, V.has, V.hasL, junkIf, setL, V.cs, hasL_i, hasL_b, hasL_s, hasL_n, hasL_rep, hasL_flat, hasL_append, -List.map_set]) rfl) ?_
 refine AL.sm rfl (sm_alloc (l := [.d (.p (.int .i64 0)), .d (.p (.int .i64 0))]) 6 inf49 rfl (by first | rfl | simp [S.clean, S.put, S.newObj, S.forget, V.has, V.hasL, junkIf, setL, V.cs, hasL_i, hasL_b, hasL_s, hasL_n, hasL_rep, hasL_flat, hasL_append, -List.map_set]) rfl rfl) ?_
 refine AL.rp rfl rfl (rp_assign rfl rfl) ?_
 refine AL.nil ?_
 try simp only [thenS, S.put, S.newObj, setL, V.cs, List.length_cons, List.length_nil, List.take_succ_cons, List.take_zero, List.drop_succ_cons, List.drop_zero, List.drop_nil, List.nil_append, List.cons_append, List.append_nil, Nat.zero_add, Nat.reduceAdd, List.map_cons, List.map_nil, List.set_cons_zero, List.set_cons_succ, enum]
 refine AW.seq ?_
 refine AW.region ?_
 refine AL.rp rfl rfl (rp_move rfl rfl) ?_
 refine AL.call (post := ?pc4) rfl (sm_invoke (rv := .agg []) (args := []) ?hc4 ⟨Try.func123, rfl, rfl, rfl, rfl⟩ rfl rfl (fun w => mtd_one w) agg0 rfl rfl) ?_
 case hc4 => exact am_one
 rintro _ rfl -
 try dsimp only
 refine AL.sm rfl (sm_alloc (l := [.d (.p (.int .i64 0)), .d (.p (.int .i64 0))]) 8 inf49 rfl (by first | rfl | simp [S.clean, S.put, S.newObj, S.forget, V.has, V.hasL, junkIf, setL, V.cs, hasL_i, hasL_b, hasL_s, hasL_n, hasL_rep, hasL_flat, hasL_append, -List.map_set]) rfl rfl) ?_
 refine AL.st rfl (st_store_any inf49 rfl rfl rfl rfl rfl rfl rfl rfl (by first | decide | (simp; done) | (simp; omega)) rfl) ?_
 refine AL.rp rfl rfl (rp_assign rfl rfl) ?_
 refine AL.nil ?_
 try simp only [thenS, S.put, S.newObj, setL, V.cs, List.length_cons, List.length_nil, List.take_succ_cons, List.take_zero, List.drop_succ_cons, List.drop_zero, List.drop_nil, List.nil_append, List.cons_append, List.append_nil, Nat.zero_add, Nat.reduceAdd, List.map_cons, List.map_nil, List.set_cons_zero, List.set_cons_succ]
 refine AW.seq ?_
 refine AW.region ?_
 refine AL.rp rfl rfl (rp_assign rfl rfl) ?_
 refine AL.nil ?_
 try simp only [thenS, S.put]
 refine AW.seq ?_
 refine AW.block ?_
 refine AW.loop (fun s' => ∃ (n m p o1 o2 a1 a2 : Int) (fits : Bool), n ≤ 1000000000 ∧ Pw x y N n m p ∧ o1 = x * m ∧ o2 = y * m ∧ (0 ≤ o1 ∧ o1 ≤ 1000000000) ∧ (0 ≤ o2 ∧ o2 ≤ 1000000000) ∧ (0 ≤ a1 ∧ a1 ≤ 1000000000) ∧ (0 ≤ a2 ∧ a2 ≤ 1000000000) ∧ (fits = true → a1 = x * p ∧ a2 = y * p) ∧ (fits = false → 1000000000 < x * p ∨ 1000000000 < y * p) ∧ s' = ⟨46, [(0, twI), (2, .i n), (4, .ref 4 0), (6, .ref 6 0), (8, .ref 8 0), (10, .b fits)], [(4, ⟨49, [.i a1, .i a2], false, 0⟩), (6, ⟨49, [.i 0, .i 0], false, 0⟩), (8, ⟨49, [.i o1, .i o2], false, 0⟩)], []⟩) (fun s' => s'.nat 2) ⟨_, ?_, N, 0, 1, 0, 0, x, y, true, by omega, ⟨by omega, by omega, by omega, by omega⟩, by simp, by simp, by omega, by omega, hx, hy, by simp, by simp, rfl⟩ ?_
 ·exact (Less.of rfl (by repeat (first | exact trivial | refine ⟨⟨_, rfl, Wk.refl _⟩, ?_⟩ | refine ⟨⟨_, rfl, Wk.nil _ _⟩, ?_⟩ | refine ⟨⟨_, rfl, Wk.junk _⟩, ?_⟩)) (by repeat (first | exact trivial | refine ⟨rfl, ?_⟩)) rfl)
 rintro s' ⟨n, m, p, o1, o2, a1, a2, fits, hnM, hpw, ho1, ho2, b1, b2, b3, b4, hf1, hf2, rfl⟩
 have hn0 := hpw.n0
 have hm0 := hpw.m0
 have hp1 := hpw.p1
 by_cases hpos : 0 < n
 ·have hle := hpw.le hpos
  by_cases hodd : n % 2 = 1
  ·have hpw' := hpw.odd hodd
   cases fits with
   | false =>
    have hov : 1000000000 < x * N ∨ 1000000000 < y * N := (hf2 rfl).imp (over_le hx.1 (by omega)) (over_le hy.1 (by omega))
    refine AW.seq ?_
    refine AW.seq ?_
    refine AW.region ?_
    refine AL.rp rfl rfl (rp_move rfl rfl) ?_
    (first | (refine AL.rp rfl rfl (rp_gtrT rfl rfl rfl (by first | assumption | omega | (dsimp only; omega))) ?_) | (refine AL.rp rfl rfl (rp_gtrF rfl rfl rfl (by first | assumption | omega | (dsimp only; omega))) ?_) | (refine AL.rp rfl rfl (rp_gtr rfl rfl rfl) ?_))
    refine AL.nil ?_
    try simp only [thenS, S.put]
    refine AW.condT rfl ?_
    refine AW.skip ?_
    try simp only [thenS]
    refine AW.seq ?_
    refine AW.block ?_
    refine AW.seq ?_
    refine AW.seq ?_
    refine AW.region ?_
    refine AL.rp rfl rfl (rp_move rfl rfl) ?_
    refine AL.rp rfl rfl (rp_rem rfl rfl rfl (by omega)) ?_
    (first | (refine AL.rp rfl rfl (rp_eqlT rfl rfl rfl (by first | assumption | omega | (dsimp only; omega))) ?_) | (refine AL.rp rfl rfl (rp_eqlF rfl rfl rfl (by first | assumption | omega | (dsimp only; omega))) ?_) | (refine AL.rp rfl rfl (rp_eql rfl rfl rfl) ?_))
    refine AL.nil ?_
    try simp only [thenS, S.put]
    refine AW.condT rfl ?_
    refine AW.seq ?_
    refine AW.seq ?_
    refine AW.region ?_
    refine AL.rp rfl rfl (rp_move rfl rfl) ?_
    refine AL.rp rfl rfl (rp_not rfl rfl) ?_
    refine AL.nil ?_
    try simp only [thenS, S.put]
    refine AW.condT rfl ?_
    refine AW.seq ?_
    refine AW.region ?_
    (first | (refine AL.rd rfl rfl (rd_loads_ref Try.underlying49 rfl inf49 rfl rfl rfl rfl rfl rfl) ?_) | (refine AL.rd rfl rfl (rd_loads_ad Try.underlying49 rfl inf49 rfl rfl rfl rfl) ?_))
    refine AL.st rfl (st_store_any inf49 rfl rfl rfl rfl rfl rfl rfl rfl (by first | decide | (simp; done) | (simp; omega)) rfl) ?_
    refine AL.rp rfl rfl (rp_assign rfl rfl) ?_
    refine AL.nil ?_
    try simp only [thenS, S.put, S.newObj, setL, V.cs, List.length_cons, List.length_nil, List.take_succ_cons, List.take_zero, List.drop_succ_cons, List.drop_zero, List.drop_nil, List.nil_append, List.cons_append, List.append_nil, Nat.zero_add, Nat.reduceAdd, List.map_cons, List.map_nil, List.set_cons_zero, List.set_cons_succ]
    refine AW.ret ?_
    exact ⟨[_, _], ⟨⟨6, 0, _, _, rfl, rfl, rfl, Try.underlying49, .inr ⟨rfl, _, _, _, _, inf49, rfl, rfl, rfl⟩⟩, rfl, trivial⟩, ⟨_, _, _, rfl, fun h => absurd h (by decide), fun _ => hov⟩, by simp [tupOf, V.pure, V.has, V.hasL]⟩
   | true =>
    obtain ⟨e1, e2⟩ := hf1 rfl
    by_cases hok : o1 + a1 ≤ 1000000000 ∧ o2 + a2 ≤ 1000000000
    ·have hmul := am_timesT o1 o2 a1 a2 b1 b2 b3 b4 hok
     by_cases hsq : a1 + a1 ≤ 1000000000 ∧ a2 + a2 ≤ 1000000000
     ·have hs := am_timesT a1 a2 a1 a2 b3 b4 b3 b4 hsq
      refine AW.seq ?_
      refine AW.seq ?_
      refine AW.region ?_
      refine AL.rp rfl rfl (rp_move rfl rfl) ?_
      (first | (refine AL.rp rfl rfl (rp_gtrT rfl rfl rfl (by first | assumption | omega | (dsimp only; omega))) ?_) | (refine AL.rp rfl rfl (rp_gtrF rfl rfl rfl (by first | assumption | omega | (dsimp only; omega))) ?_) | (refine AL.rp rfl rfl (rp_gtr rfl rfl rfl) ?_))
      refine AL.nil ?_
      try simp only [thenS, S.put]
      refine AW.condT rfl ?_
      refine AW.skip ?_
      try simp only [thenS]
      refine AW.seq ?_
      refine AW.block ?_
      refine AW.seq ?_
      refine AW.seq ?_
      refine AW.region ?_
      refine AL.rp rfl rfl (rp_move rfl rfl) ?_
      refine AL.rp rfl rfl (rp_rem rfl rfl rfl (by omega)) ?_
      (first | (refine AL.rp rfl rfl (rp_eqlT rfl rfl rfl (by first | assumption | omega | (dsimp only; omega))) ?_) | (refine AL.rp rfl rfl (rp_eqlF rfl rfl rfl (by first | assumption | omega | (dsimp only; omega))) ?_) | (refine AL.rp rfl rfl (rp_eql rfl rfl rfl) ?_))
      refine AL.nil ?_
      try simp only [thenS, S.put]
      refine AW.condT rfl ?_
      refine AW.seq ?_
      refine AW.seq ?_
      refine AW.region ?_
      refine AL.rp rfl rfl (rp_move rfl rfl) ?_
      refine AL.rp rfl rfl (rp_not rfl rfl) ?_
      refine AL.nil ?_
      try simp only [thenS, S.put]
      refine AW.condF rfl ?_
      refine AW.skip ?_
      try simp only [thenS]
      refine AW.seq ?_
      refine AW.region ?_
      refine AL.rp rfl rfl (rp_move rfl rfl) ?_
      (first | (refine AL.rd rfl rfl (rd_loads_ref Try.underlying49 rfl inf49 rfl rfl rfl rfl rfl rfl) ?_) | (refine AL.rd rfl rfl (rd_loads_ad Try.underlying49 rfl inf49 rfl rfl rfl rfl) ?_))
      (first | (refine AL.rd rfl rfl (rd_loads_ref Try.underlying49 rfl inf49 rfl rfl rfl rfl rfl rfl) ?_) | (refine AL.rd rfl rfl (rd_loads_ad Try.underlying49 rfl inf49 rfl rfl rfl rfl) ?_))
      refine AL.call (post := ?pc5) rfl (sm_invoke (rv := .agg []) (args := [_, _]) ?hc5 ⟨Try.func124, rfl, rfl, rfl, rfl⟩ rfl rfl (fun w => mtd_times w) agg0 rfl rfl) ?_
      case hc5 => exact hmul
      rintro _ rfl -
      try dsimp only
      refine AL.rp rfl rfl (rp_move rfl rfl) ?_
      refine AL.rp rfl rfl (rp_extract rfl rfl rfl) ?_
      refine AL.rp rfl rfl (rp_extract rfl rfl rfl) ?_
      refine AL.st rfl (st_store_any inf49 rfl rfl rfl rfl rfl rfl rfl rfl (by first | decide | (simp; done) | (simp; omega)) rfl) ?_
      refine AL.rp rfl rfl (rp_assign rfl rfl) ?_
      refine AL.nil ?_
      try simp only [thenS, S.put, S.newObj, setL, V.cs, List.length_cons, List.length_nil, List.take_succ_cons, List.take_zero, List.drop_succ_cons, List.drop_zero, List.drop_nil, List.nil_append, List.cons_append, List.append_nil, Nat.zero_add, Nat.reduceAdd, List.map_cons, List.map_nil, List.set_cons_zero, List.set_cons_succ]
      refine AW.seq ?_
      refine AW.region ?_
      refine AL.rp rfl rfl (rp_move rfl rfl) ?_
      refine AL.rp rfl rfl (rp_not rfl rfl) ?_
      refine AL.nil ?_
      try simp only [thenS, S.put]
      refine AW.condF rfl ?_
      refine AW.skip ?_
      try simp only [thenS]
      refine AW.seq ?_
      refine AW.region ?_
      refine AL.rp rfl rfl (rp_move rfl rfl) ?_
      refine AL.nil ?_
      try simp only [thenS, S.put]
      refine AW.condT rfl ?_
      refine AW.seq ?_
      refine AW.region ?_
      refine AL.rp rfl rfl (rp_move rfl rfl) ?_
      (first | (refine AL.rd rfl rfl (rd_loads_ref Try.underlying49 rfl inf49 rfl rfl rfl rfl rfl rfl) ?_) | (refine AL.rd rfl rfl (rd_loads_ad Try.underlying49 rfl inf49 rfl rfl rfl rfl) ?_))
      (first | (refine AL.rd rfl rfl (rd_loads_ref Try.underlying49 rfl inf49 rfl rfl rfl rfl rfl rfl) ?_) | (refine AL.rd rfl rfl (rd_loads_ad Try.underlying49 rfl inf49 rfl rfl rfl rfl) ?_))
      refine AL.call (post := ?pc6) rfl (sm_invoke (rv := .agg []) (args := [_, _]) ?hc6 ⟨Try.func124, rfl, rfl, rfl, rfl⟩ rfl rfl (fun w => mtd_times w) agg0 rfl rfl) ?_
      case hc6 => exact hs
      rintro _ rfl -
      try dsimp only
      refine AL.rp rfl rfl (rp_move rfl rfl) ?_
      refine AL.rp rfl rfl (rp_extract rfl rfl rfl) ?_
      refine AL.rp rfl rfl (rp_extract rfl rfl rfl) ?_
      refine AL.sm rfl (sm_alloc (l := [.d (.p (.int .i64 0)), .d (.p (.int .i64 0))]) 11 inf49 rfl (by first | rfl | simp [S.clean, S.put, S.newObj, S.forget, V.has, V.hasL, junkIf, setL, V.cs, hasL_i, hasL_b, hasL_s, hasL_n, hasL_rep, hasL_flat, hasL_append, -List.map_set]) rfl rfl) ?_
      refine AL.st rfl (st_store_any inf49 rfl rfl rfl rfl rfl rfl rfl rfl (by first | decide | (simp; done) | (simp; omega)) rfl) ?_
      refine AL.rp rfl rfl (rp_assign rfl rfl) ?_
      refine AL.nil ?_
      try simp only [thenS, S.put, S.newObj, setL, V.cs, List.length_cons, List.length_nil, List.take_succ_cons, List.take_zero, List.drop_succ_cons, List.drop_zero, List.drop_nil, List.nil_append, List.cons_append, List.append_nil, Nat.zero_add, Nat.reduceAdd, List.map_cons, List.map_nil, List.set_cons_zero, List.set_cons_succ]
      refine AW.seq ?_
      refine AW.region ?_
      refine AL.rp rfl rfl (rp_move rfl rfl) ?_
      refine AL.nil ?_
      try simp only [thenS, S.put]
      refine AW.condT rfl ?_
      refine AW.region ?_
      (first | (refine AL.rd rfl rfl (rd_loads_ref Try.underlying49 rfl inf49 rfl rfl rfl rfl rfl rfl) ?_) | (refine AL.rd rfl rfl (rd_loads_ad Try.underlying49 rfl inf49 rfl rfl rfl rfl) ?_))
      refine AL.st rfl (st_store_any inf49 rfl rfl rfl rfl rfl rfl rfl rfl (by first | decide | (simp; done) | (simp; omega)) rfl) ?_
      refine AL.nil ?_
      try simp only [thenS, S.put, S.newObj, setL, V.cs, List.length_cons, List.length_nil, List.take_succ_cons, List.take_zero, List.drop_succ_cons, List.drop_zero, List.drop_nil, List.nil_append, List.cons_append, List.append_nil, Nat.zero_add, Nat.reduceAdd, List.map_cons, List.map_nil, List.set_cons_zero, List.set_cons_succ]
      refine AW.region ?_
      refine AL.rp rfl rfl (rp_move rfl rfl) ?_
      refine AL.rp rfl rfl (rp_quo rfl rfl rfl (by omega)) ?_
      refine AL.rp rfl rfl (rp_assign rfl rfl) ?_
      refine AL.nil ?_
      try simp only [thenS, S.put]
      refine ⟨_, ?_, ⟨n / 2, m + p, 2 * p, o1 + a1, o2 + a2, a1 + a1, a2 + a2, true, by omega, hpw', by rw [ho1, e1, Int.mul_add], by rw [ho2, e2, Int.mul_add], by omega, by omega, by omega, by omega, fun _ => ⟨by rw [e1, mul2], by rw [e2, mul2]⟩, fun h => absurd h (by decide), rfl⟩, ?_⟩
      ·exact (Less.of rfl (by repeat (first | exact trivial | refine ⟨⟨_, rfl, Wk.refl _⟩, ?_⟩ | refine ⟨⟨_, rfl, Wk.nil _ _⟩, ?_⟩ | refine ⟨⟨_, rfl, Wk.junk _⟩, ?_⟩)) (by repeat (first | exact trivial | refine ⟨rfl, ?_⟩)) rfl)
      ·simp [S.nat, fnd]; omega
     ·have hs := am_timesF a1 a2 a1 a2 b3 b4 b3 b4 hsq
      refine AW.seq ?_
      refine AW.seq ?_
      refine AW.region ?_
      refine AL.rp rfl rfl (rp_move rfl rfl) ?_
      (first | (refine AL.rp rfl rfl (rp_gtrT rfl rfl rfl (by first | assumption | omega | (dsimp only; omega))) ?_) | (refine AL.rp rfl rfl (rp_gtrF rfl rfl rfl (by first | assumption | omega | (dsimp only; omega))) ?_) | (refine AL.rp rfl rfl (rp_gtr rfl rfl rfl) ?_))
      refine AL.nil ?_
      try simp only [thenS, S.put]
      refine AW.condT rfl ?_
      refine AW.skip ?_
      try simp only [thenS]
      refine AW.seq ?_
      refine AW.block ?_
      refine AW.seq ?_
      refine AW.seq ?_
      refine AW.region ?_
      refine AL.rp rfl rfl (rp_move rfl rfl) ?_
      refine AL.rp rfl rfl (rp_rem rfl rfl rfl (by omega)) ?_
      (first | (refine AL.rp rfl rfl (rp_eqlT rfl rfl rfl (by first | assumption | omega | (dsimp only; omega))) ?_) | (refine AL.rp rfl rfl (rp_eqlF rfl rfl rfl (by first | assumption | omega | (dsimp only; omega))) ?_) | (refine AL.rp rfl rfl (rp_eql rfl rfl rfl) ?_))
      refine AL.nil ?_
      try simp only [thenS, S.put]
      refine AW.condT rfl ?_
      refine AW.seq ?_
      refine AW.seq ?_
      refine AW.region ?_
      refine AL.rp rfl rfl (rp_move rfl rfl) ?_
      refine AL.rp rfl rfl (rp_not rfl rfl) ?_
      refine AL.nil ?_
      try simp only [thenS, S.put]
      refine AW.condF rfl ?_
      refine AW.skip ?_
      try simp only [thenS]
      refine AW.seq ?_
      refine AW.region ?_
      refine AL.rp rfl rfl (rp_move rfl rfl) ?_
      (first | (refine AL.rd rfl rfl (rd_loads_ref Try.underlying49 rfl inf49 rfl rfl rfl rfl rfl rfl) ?_) | (refine AL.rd rfl rfl (rd_loads_ad Try.underlying49 rfl inf49 rfl rfl rfl rfl) ?_))
      (first | (refine AL.rd rfl rfl (rd_loads_ref Try.underlying49 rfl inf49 rfl rfl rfl rfl rfl rfl) ?_) | (refine AL.rd rfl rfl (rd_loads_ad Try.underlying49 rfl inf49 rfl rfl rfl rfl) ?_))
      refine AL.call (post := ?pc7) rfl (sm_invoke (rv := .agg []) (args := [_, _]) ?hc7 ⟨Try.func124, rfl, rfl, rfl, rfl⟩ rfl rfl (fun w => mtd_times w) agg0 rfl rfl) ?_
      case hc7 => exact hmul
      rintro _ rfl -
      try dsimp only
      refine AL.rp rfl rfl (rp_move rfl rfl) ?_
      refine AL.rp rfl rfl (rp_extract rfl rfl rfl) ?_
      refine AL.rp rfl rfl (rp_extract rfl rfl rfl) ?_
      refine AL.st rfl (st_store_any inf49 rfl rfl rfl rfl rfl rfl rfl rfl (by first | decide | (simp; done) | (simp; omega)) rfl) ?_
      refine AL.rp rfl rfl (rp_assign rfl rfl) ?_
      refine AL.nil ?_
      try simp only [thenS, S.put, S.newObj, setL, V.cs, List.length_cons, List.length_nil, List.take_succ_cons, List.take_zero, List.drop_succ_cons, List.drop_zero, List.drop_nil, List.nil_append, List.cons_append, List.append_nil, Nat.zero_add, Nat.reduceAdd, List.map_cons, List.map_nil, List.set_cons_zero, List.set_cons_succ]
      refine AW.seq ?_
      refine AW.region ?_
      refine AL.rp rfl rfl (rp_move rfl rfl) ?_
      refine AL.rp rfl rfl (rp_not rfl rfl) ?_
      refine AL.nil ?_
      try simp only [thenS, S.put]
      refine AW.condF rfl ?_
      refine AW.skip ?_
      try simp only [thenS]
      refine AW.seq ?_
      refine AW.region ?_
      refine AL.rp rfl rfl (rp_move rfl rfl) ?_
      refine AL.nil ?_
      try simp only [thenS, S.put]
      refine AW.condT rfl ?_
      refine AW.seq ?_
      refine AW.region ?_
      refine AL.rp rfl rfl (rp_move rfl rfl) ?_
      (first | (refine AL.rd rfl rfl (rd_loads_ref Try.underlying49 rfl inf49 rfl rfl rfl rfl rfl rfl) ?_) | (refine AL.rd rfl rfl (rd_loads_ad Try.underlying49 rfl inf49 rfl rfl rfl rfl) ?_))
      (first | (refine AL.rd rfl rfl (rd_loads_ref Try.underlying49 rfl inf49 rfl rfl rfl rfl rfl rfl) ?_) | (refine AL.rd rfl rfl (rd_loads_ad Try.underlying49 rfl inf49 rfl rfl rfl rfl) ?_))
      refine AL.call (post := ?pc8) rfl (sm_invoke (rv := .agg []) (args := [_, _]) ?hc8 ⟨Try.func124, rfl, rfl, rfl, rfl⟩ rfl rfl (fun w => mtd_times w) agg0 rfl rfl) ?_
      case hc8 => exact hs
      rintro _ rfl -
      try dsimp only
      refine AL.rp rfl rfl (rp_move rfl rfl) ?_
      refine AL.rp rfl rfl (rp_extract rfl rfl rfl) ?_
      refine AL.rp rfl rfl (rp_extract rfl rfl rfl) ?_
      refine AL.sm rfl (sm_alloc (l := [.d (.p (.int .i64 0)), .d (.p (.int .i64 0))]) 11 inf49 rfl (by first | rfl | simp [S.clean, S.put, S.newObj, S.forget, V.has, V.hasL, junkIf, setL, V.cs, hasL_i, hasL_b, hasL_s, hasL_n, hasL_rep, hasL_flat, hasL_append, -List.map_set]) rfl rfl) ?_
      refine AL.st rfl (st_store_any inf49 rfl rfl rfl rfl rfl rfl rfl rfl (by first | decide | (simp; done) | (simp; omega)) rfl) ?_
      refine AL.rp rfl rfl (rp_assign rfl rfl) ?_
      refine AL.nil ?_
      try simp only [thenS, S.put, S.newObj, setL, V.cs, List.length_cons, List.length_nil, List.take_succ_cons, List.take_zero, List.drop_succ_cons, List.drop_zero, List.drop_nil, List.nil_append, List.cons_append, List.append_nil, Nat.zero_add, Nat.reduceAdd, List.map_cons, List.map_nil, List.set_cons_zero, List.set_cons_succ]
      refine AW.seq ?_
      refine AW.region ?_
      refine AL.rp rfl rfl (rp_move rfl rfl) ?_
      refine AL.nil ?_
      try simp only [thenS, S.put]
      refine AW.condF rfl ?_
      refine AW.region ?_
      refine AL.rp rfl rfl (rp_assign rfl rfl) ?_
      refine AL.nil ?_
      try simp only [thenS, S.put]
      refine AW.region ?_
      refine AL.rp rfl rfl (rp_move rfl rfl) ?_
      refine AL.rp rfl rfl (rp_quo rfl rfl rfl (by omega)) ?_
      refine AL.rp rfl rfl (rp_assign rfl rfl) ?_
      refine AL.nil ?_
      try simp only [thenS, S.put]
      refine ⟨_, ?_, ⟨n / 2, m + p, 2 * p, o1 + a1, o2 + a2, a1, a2, false, by omega, hpw', by rw [ho1, e1, Int.mul_add], by rw [ho2, e2, Int.mul_add], by omega, by omega, by omega, by omega, fun h => absurd h (by decide), fun _ => by rw [mul2, mul2, ← e1, ← e2]; omega, rfl⟩, ?_⟩
      ·exact (Less.of rfl (by repeat (first | exact trivial | refine ⟨⟨_, rfl, Wk.refl _⟩, ?_⟩ | refine ⟨⟨_, rfl, Wk.nil _ _⟩, ?_⟩ | refine ⟨⟨_, rfl, Wk.junk _⟩, ?_⟩)) (by repeat (first | exact trivial | refine ⟨rfl, ?_⟩)) rfl)
      ·simp [S.nat, fnd]; omega
    ·have hmul := am_timesF o1 o2 a1 a2 b1 b2 b3 b4 hok
     have hov : 1000000000 < x * N ∨ 1000000000 < y * N := by
      have k1 : o1 + a1 = x * (m + p) := by rw [ho1, e1, Int.mul_add]
      have k2 : o2 + a2 = y * (m + p) := by rw [ho2, e2, Int.mul_add]
      rcases (show 1000000000 < o1 + a1 ∨ 1000000000 < o2 + a2 by omega) with h | h
      ·exact .inl (over_le hx.1 hle (by omega))
      ·exact .inr (over_le hy.1 hle (by omega))
     refine AW.seq ?_
     refine AW.seq ?_
     refine AW.region ?_
     refine AL.rp rfl rfl (rp_move rfl rfl) ?_
     (first | (refine AL.rp rfl rfl (rp_gtrT rfl rfl rfl (by first | assumption | omega | (dsimp only; omega))) ?_) | (refine AL.rp rfl rfl (rp_gtrF rfl rfl rfl (by first | assumption | omega | (dsimp only; omega))) ?_) | (refine AL.rp rfl rfl (rp_gtr rfl rfl rfl) ?_))
     refine AL.nil ?_
     try simp only [thenS, S.put]
     refine AW.condT rfl ?_
     refine AW.skip ?_
     try simp only [thenS]
     refine AW.seq ?_
     refine AW.block ?_
     refine AW.seq ?_
     refine AW.seq ?_
     refine AW.region ?_
     refine AL.rp rfl rfl (rp_move rfl rfl) ?_
     refine AL.rp rfl rfl (rp_rem rfl rfl rfl (by omega)) ?_
     (first | (refine AL.rp rfl rfl (rp_eqlT rfl rfl rfl (by first | assumption | omega | (dsimp only; omega))) ?_) | (refine AL.rp rfl rfl (rp_eqlF rfl rfl rfl (by first | assumption | omega | (dsimp only; omega))) ?_) | (refine AL.rp rfl rfl (rp_eql rfl rfl rfl) ?_))
     refine AL.nil ?_
     try simp only [thenS, S.put]
     refine AW.condT rfl ?_
     refine AW.seq ?_
     refine AW.seq ?_
     refine AW.region ?_
     refine AL.rp rfl rfl (rp_move rfl rfl) ?_
     refine AL.rp rfl rfl (rp_not rfl rfl) ?_
     refine AL.nil ?_
     try simp only [thenS, S.put]
     refine AW.condF rfl ?_
     refine AW.skip ?_
     try simp only [thenS]
     refine AW.seq ?_
     refine AW.region ?_
     refine AL.rp rfl rfl (rp_move rfl rfl) ?_
     (first | (refine AL.rd rfl rfl (rd_loads_ref Try.underlying49 rfl inf49 rfl rfl rfl rfl rfl rfl) ?_) | (refine AL.rd rfl rfl (rd_loads_ad Try.underlying49 rfl inf49 rfl rfl rfl rfl) ?_))
     (first | (refine AL.rd rfl rfl (rd_loads_ref Try.underlying49 rfl inf49 rfl rfl rfl rfl rfl rfl) ?_) | (refine AL.rd rfl rfl (rd_loads_ad Try.underlying49 rfl inf49 rfl rfl rfl rfl) ?_))
     refine AL.call (post := ?pc9) rfl (sm_invoke (rv := .agg []) (args := [_, _]) ?hc9 ⟨Try.func124, rfl, rfl, rfl, rfl⟩ rfl rfl (fun w => mtd_times w) agg0 rfl rfl) ?_
     case hc9 => exact hmul
     rintro _ rfl -
     try dsimp only
     refine AL.rp rfl rfl (rp_move rfl rfl) ?_
     refine AL.rp rfl rfl (rp_extract rfl rfl rfl) ?_
     refine AL.rp rfl rfl (rp_extract rfl rfl rfl) ?_
     refine AL.st rfl (st_store_any inf49 rfl rfl rfl rfl rfl rfl rfl rfl (by first | decide | (simp; done) | (simp; omega)) rfl) ?_
     refine AL.rp rfl rfl (rp_assign rfl rfl) ?_
     refine AL.nil ?_
     try simp only [thenS, S.put, S.newObj, setL, V.cs, List.length_cons, List.length_nil, List.take_succ_cons, List.take_zero, List.drop_succ_cons, List.drop_zero, List.drop_nil, List.nil_append, List.cons_append, List.append_nil, Nat.zero_add, Nat.reduceAdd, List.map_cons, List.map_nil, List.set_cons_zero, List.set_cons_succ]
     refine AW.seq ?_
     refine AW.region ?_
     refine AL.rp rfl rfl (rp_move rfl rfl) ?_
     refine AL.rp rfl rfl (rp_not rfl rfl) ?_
     refine AL.nil ?_
     try simp only [thenS, S.put]
     refine AW.condT rfl ?_
     refine AW.seq ?_
     refine AW.region ?_
     (first | (refine AL.rd rfl rfl (rd_loads_ref Try.underlying49 rfl inf49 rfl rfl rfl rfl rfl rfl) ?_) | (refine AL.rd rfl rfl (rd_loads_ad Try.underlying49 rfl inf49 rfl rfl rfl rfl) ?_))
     refine AL.st rfl (st_store_any inf49 rfl rfl rfl rfl rfl rfl rfl rfl (by first | decide | (simp; done) | (simp; omega)) rfl) ?_
     refine AL.rp rfl rfl (rp_assign rfl rfl) ?_
     refine AL.nil ?_
     try simp only [thenS, S.put, S.newObj, setL, V.cs, List.length_cons, List.length_nil, List.take_succ_cons, List.take_zero, List.drop_succ_cons, List.drop_zero, List.drop_nil, List.nil_append, List.cons_append, List.append_nil, Nat.zero_add, Nat.reduceAdd, List.map_cons, List.map_nil, List.set_cons_zero, List.set_cons_succ]
     refine AW.ret ?_
     exact ⟨[_, _], ⟨⟨6, 0, _, _, rfl, rfl, rfl, Try.underlying49, .inr ⟨rfl, _, _, _, _, inf49, rfl, rfl, rfl⟩⟩, rfl, trivial⟩, ⟨_, _, _, rfl, fun h => absurd h (by decide), fun _ => hov⟩, by simp [tupOf, V.pure, V.has, V.hasL]⟩
  ·have hpw' := hpw.even hodd
   cases fits with
   | false =>
    refine AW.seq ?_
    refine AW.seq ?_
    refine AW.region ?_
    refine AL.rp rfl rfl (rp_move rfl rfl) ?_
    (first | (refine AL.rp rfl rfl (rp_gtrT rfl rfl rfl (by first | assumption | omega | (dsimp only; omega))) ?_) | (refine AL.rp rfl rfl (rp_gtrF rfl rfl rfl (by first | assumption | omega | (dsimp only; omega))) ?_) | (refine AL.rp rfl rfl (rp_gtr rfl rfl rfl) ?_))
    refine AL.nil ?_
    try simp only [thenS, S.put]
    refine AW.condT rfl ?_
    refine AW.skip ?_
    try simp only [thenS]
    refine AW.seq ?_
    refine AW.block ?_
    refine AW.seq ?_
    refine AW.seq ?_
    refine AW.region ?_
    refine AL.rp rfl rfl (rp_move rfl rfl) ?_
    refine AL.rp rfl rfl (rp_rem rfl rfl rfl (by omega)) ?_
    (first | (refine AL.rp rfl rfl (rp_eqlT rfl rfl rfl (by first | assumption | omega | (dsimp only; omega))) ?_) | (refine AL.rp rfl rfl (rp_eqlF rfl rfl rfl (by first | assumption | omega | (dsimp only; omega))) ?_) | (refine AL.rp rfl rfl (rp_eql rfl rfl rfl) ?_))
    refine AL.nil ?_
    try simp only [thenS, S.put]
    refine AW.condF rfl ?_
    refine AW.skip ?_
    try simp only [thenS]
    refine AW.seq ?_
    refine AW.region ?_
    refine AL.rp rfl rfl (rp_move rfl rfl) ?_
    refine AL.nil ?_
    try simp only [thenS, S.put]
    refine AW.condF rfl ?_
    refine AW.skip ?_
    try simp only [thenS]
    refine AW.region ?_
    refine AL.rp rfl rfl (rp_move rfl rfl) ?_
    refine AL.rp rfl rfl (rp_quo rfl rfl rfl (by omega)) ?_
    refine AL.rp rfl rfl (rp_assign rfl rfl) ?_
    refine AL.nil ?_
    try simp only [thenS, S.put]
    refine ⟨_, ?_, ⟨n / 2, m, 2 * p, o1, o2, a1, a2, false, by omega, hpw', ho1, ho2, b1, b2, b3, b4, fun h => absurd h (by decide), fun _ => ?_, rfl⟩, ?_⟩
    ·exact (Less.of rfl (by repeat (first | exact trivial | refine ⟨⟨_, rfl, Wk.refl _⟩, ?_⟩ | refine ⟨⟨_, rfl, Wk.nil _ _⟩, ?_⟩ | refine ⟨⟨_, rfl, Wk.junk _⟩, ?_⟩)) (by repeat (first | exact trivial | refine ⟨rfl, ?_⟩)) rfl)
    ·have h1 := mul_nn hx.1 (show 0 ≤ p by omega)
     have h2 := mul_nn hy.1 (show 0 ≤ p by omega)
     have h3 := hf2 rfl
     rw [mul2, mul2]
     omega
    ·simp [S.nat, fnd]; omega
   | true =>
    obtain ⟨e1, e2⟩ := hf1 rfl
    by_cases hsq : a1 + a1 ≤ 1000000000 ∧ a2 + a2 ≤ 1000000000
    ·have hs := am_timesT a1 a2 a1 a2 b3 b4 b3 b4 hsq
     refine AW.seq ?_
     refine AW.seq ?_
     refine AW.region ?_
     refine AL.rp rfl rfl (rp_move rfl rfl) ?_
     (first | (refine AL.rp rfl rfl (rp_gtrT rfl rfl rfl (by first | assumption | omega | (dsimp only; omega))) ?_) | (refine AL.rp rfl rfl (rp_gtrF rfl rfl rfl (by first | assumption | omega | (dsimp only; omega))) ?_) | (refine AL.rp rfl rfl (rp_gtr rfl rfl rfl) ?_))
     refine AL.nil ?_
     try simp only [thenS, S.put]
     refine AW.condT rfl ?_
     refine AW.skip ?_
     try simp only [thenS]
     refine AW.seq ?_
     refine AW.block ?_
     refine AW.seq ?_
     refine AW.seq ?_
     refine AW.region ?_
     refine AL.rp rfl rfl (rp_move rfl rfl) ?_
     refine AL.rp rfl rfl (rp_rem rfl rfl rfl (by omega)) ?_
     (first | (refine AL.rp rfl rfl (rp_eqlT rfl rfl rfl (by first | assumption | omega | (dsimp only; omega))) ?_) | (refine AL.rp rfl rfl (rp_eqlF rfl rfl rfl (by first | assumption | omega | (dsimp only; omega))) ?_) | (refine AL.rp rfl rfl (rp_eql rfl rfl rfl) ?_))
     refine AL.nil ?_
     try simp only [thenS, S.put]
     refine AW.condF rfl ?_
     refine AW.skip ?_
     try simp only [thenS]
     refine AW.seq ?_
     refine AW.region ?_
     refine AL.rp rfl rfl (rp_move rfl rfl) ?_
     refine AL.nil ?_
     try simp only [thenS, S.put]
     refine AW.condT rfl ?_
     refine AW.seq ?_
     refine AW.region ?_
     refine AL.rp rfl rfl (rp_move rfl rfl) ?_
     (first | (refine AL.rd rfl rfl (rd_loads_ref Try.underlying49 rfl inf49 rfl rfl rfl rfl rfl rfl) ?_) | (refine AL.rd rfl rfl (rd_loads_ad Try.underlying49 rfl inf49 rfl rfl rfl rfl) ?_))
     (first | (refine AL.rd rfl rfl (rd_loads_ref Try.underlying49 rfl inf49 rfl rfl rfl rfl rfl rfl) ?_) | (refine AL.rd rfl rfl (rd_loads_ad Try.underlying49 rfl inf49 rfl rfl rfl rfl) ?_))
     refine AL.call (post := ?pc10) rfl (sm_invoke (rv := .agg []) (args := [_, _]) ?hc10 ⟨Try.func124, rfl, rfl, rfl, rfl⟩ rfl rfl (fun w => mtd_times w) agg0 rfl rfl) ?_
     case hc10 => exact hs
     rintro _ rfl -
     try dsimp only
     refine AL.rp rfl rfl (rp_move rfl rfl) ?_
     refine AL.rp rfl rfl (rp_extract rfl rfl rfl) ?_
     refine AL.rp rfl rfl (rp_extract rfl rfl rfl) ?_
     refine AL.sm rfl (sm_alloc (l := [.d (.p (.int .i64 0)), .d (.p (.int .i64 0))]) 11 inf49 rfl (by first | rfl | simp [S.clean, S.put, S.newObj, S.forget, V.has, V.hasL, junkIf, setL, V.cs, hasL_i, hasL_b, hasL_s, hasL_n, hasL_rep, hasL_flat, hasL_append, -List.map_set]) rfl rfl) ?_
     refine AL.st rfl (st_store_any inf49 rfl rfl rfl rfl rfl rfl rfl rfl (by first | decide | (simp; done) | (simp; omega)) rfl) ?_
     refine AL.rp rfl rfl (rp_assign rfl rfl) ?_
     refine AL.nil ?_
     try simp only [thenS, S.put, S.newObj, setL, V.cs, List.length_cons, List.length_nil, List.take_succ_cons, List.take_zero, List.drop_succ_cons, List.drop_zero, List.drop_nil, List.nil_append, List.cons_append, List.append_nil, Nat.zero_add, Nat.reduceAdd, List.map_cons, List.map_nil, List.set_cons_zero, List.set_cons_succ]
     refine AW.seq ?_
     refine AW.region ?_
     refine AL.rp rfl rfl (rp_move rfl rfl) ?_
     refine AL.nil ?_
     try simp only [thenS, S.put]
     refine AW.condT rfl ?_
     refine AW.region ?_
     (first | (refine AL.rd rfl rfl (rd_loads_ref Try.underlying49 rfl inf49 rfl rfl rfl rfl rfl rfl) ?_) | (refine AL.rd rfl rfl (rd_loads_ad Try.underlying49 rfl inf49 rfl rfl rfl rfl) ?_))
     refine AL.st rfl (st_store_any inf49 rfl rfl rfl rfl rfl rfl rfl rfl (by first | decide | (simp; done) | (simp; omega)) rfl) ?_
     refine AL.nil ?_
     try simp only [thenS, S.put, S.newObj, setL, V.cs, List.length_cons, List.length_nil, List.take_succ_cons, List.take_zero, List.drop_succ_cons, List.drop_zero, List.drop_nil, List.nil_append, List.cons_append, List.append_nil, Nat.zero_add, Nat.reduceAdd, List.map_cons, List.map_nil, List.set_cons_zero, List.set_cons_succ]
     refine AW.region ?_
     refine AL.rp rfl rfl (rp_move rfl rfl) ?_
     refine AL.rp rfl rfl (rp_quo rfl rfl rfl (by omega)) ?_
     refine AL.rp rfl rfl (rp_assign rfl rfl) ?_
     refine AL.nil ?_
     try simp only [thenS, S.put]
     refine ⟨_, ?_, ⟨n / 2, m, 2 * p, o1, o2, a1 + a1, a2 + a2, true, by omega, hpw', ho1, ho2, b1, b2, by omega, by omega, fun _ => ⟨by rw [e1, mul2], by rw [e2, mul2]⟩, fun h => absurd h (by decide), rfl⟩, ?_⟩
     ·exact (Less.of rfl (by repeat (first | exact trivial | refine ⟨⟨_, rfl, Wk.refl _⟩, ?_⟩ | refine ⟨⟨_, rfl, Wk.nil _ _⟩, ?_⟩ | refine ⟨⟨_, rfl, Wk.junk _⟩, ?_⟩)) (by repeat (first | exact trivial | refine ⟨rfl, ?_⟩)) rfl)
     ·simp [S.nat, fnd]; omega
    ·have hs := am_timesF a1 a2 a1 a2 b3 b4 b3 b4 hsq
     refine AW.seq ?_
     refine AW.seq ?_
     refine AW.region ?_
     refine AL.rp rfl rfl (rp_move rfl rfl) ?_
     (first | (refine AL.rp rfl rfl (rp_gtrT rfl rfl rfl (by first | assumption | omega | (dsimp only; omega))) ?_) | (refine AL.rp rfl rfl (rp_gtrF rfl rfl rfl (by first | assumption | omega | (dsimp only; omega))) ?_) | (refine AL.rp rfl rfl (rp_gtr rfl rfl rfl) ?_))
     refine AL.nil ?_
     try simp only [thenS, S.put]
     refine AW.condT rfl ?_
     refine AW.skip ?_
     try simp only [thenS]
     refine AW.seq ?_
     refine AW.block ?_
     refine AW.seq ?_
     refine AW.seq ?_
     refine AW.region ?_
     refine AL.rp rfl rfl (rp_move rfl rfl) ?_
     refine AL.rp rfl rfl (rp_rem rfl rfl rfl (by omega)) ?_
     (first | (refine AL.rp rfl rfl (rp_eqlT rfl rfl rfl (by first | assumption | omega | (dsimp only; omega))) ?_) | (refine AL.rp rfl rfl (rp_eqlF rfl rfl rfl (by first | assumption | omega | (dsimp only; omega))) ?_) | (refine AL.rp rfl rfl (rp_eql rfl rfl rfl) ?_))
     refine AL.nil ?_
     try simp only [thenS, S.put]
     refine AW.condF rfl ?_
     refine AW.skip ?_
     try simp only [thenS]
     refine AW.seq ?_
     refine AW.region ?_
     refine AL.rp rfl rfl (rp_move rfl rfl) ?_
     refine AL.nil ?_
     try simp only [thenS, S.put]
     refine AW.condT rfl ?_
     refine AW.seq ?_
     refine AW.region ?_
     refine AL.rp rfl rfl (rp_move rfl rfl) ?_
     (first | (refine AL.rd rfl rfl (rd_loads_ref Try.underlying49 rfl inf49 rfl rfl rfl rfl rfl rfl) ?_) | (refine AL.rd rfl rfl (rd_loads_ad Try.underlying49 rfl inf49 rfl rfl rfl rfl) ?_))
     (first | (refine AL.rd rfl rfl (rd_loads_ref Try.underlying49 rfl inf49 rfl rfl rfl rfl rfl rfl) ?_) | (refine AL.rd rfl rfl (rd_loads_ad Try.underlying49 rfl inf49 rfl rfl rfl rfl) ?_))
     refine AL.call (post := ?pc11) rfl (sm_invoke (rv := .agg []) (args := [_, _]) ?hc11 ⟨Try.func124, rfl, rfl, rfl, rfl⟩ rfl rfl (fun w => mtd_times w) agg0 rfl rfl) ?_
     case hc11 => exact hs
     rintro _ rfl -
     try dsimp only
     refine AL.rp rfl rfl (rp_move rfl rfl) ?_
     refine AL.rp rfl rfl (rp_extract rfl rfl rfl) ?_
     refine AL.rp rfl rfl (rp_extract rfl rfl rfl) ?_
     refine AL.sm rfl (sm_alloc (l := [.d (.p (.int .i64 0)), .d (.p (.int .i64 0))]) 11 inf49 rfl (by first | rfl | simp [S.clean, S.put, S.newObj, S.forget, V.has, V.hasL, junkIf, setL, V.cs, hasL_i, hasL_b, hasL_s, hasL_n, hasL_rep, hasL_flat, hasL_append, -List.map_set]) rfl rfl) ?_
     refine AL.st rfl (st_store_any inf49 rfl rfl rfl rfl rfl rfl rfl rfl (by first | decide | (simp; done) | (simp; omega)) rfl) ?_
     refine AL.rp rfl rfl (rp_assign rfl rfl) ?_
     refine AL.nil ?_
     try simp only [thenS, S.put, S.newObj, setL, V.cs, List.length_cons, List.length_nil, List.take_succ_cons, List.take_zero, List.drop_succ_cons, List.drop_zero, List.drop_nil, List.nil_append, List.cons_append, List.append_nil, Nat.zero_add, Nat.reduceAdd, List.map_cons, List.map_nil, List.set_cons_zero, List.set_cons_succ]
     refine AW.seq ?_
     refine AW.region ?_
     refine AL.rp rfl rfl (rp_move rfl rfl) ?_
     refine AL.nil ?_
     try simp only [thenS, S.put]
     refine AW.condF rfl ?_
     refine AW.region ?_
     refine AL.rp rfl rfl (rp_assign rfl rfl) ?_
     refine AL.nil ?_
     try simp only [thenS, S.put]
     refine AW.region ?_
     refine AL.rp rfl rfl (rp_move rfl rfl) ?_
     refine AL.rp rfl rfl (rp_quo rfl rfl rfl (by omega)) ?_
     refine AL.rp rfl rfl (rp_assign rfl rfl) ?_
     refine AL.nil ?_
     try simp only [thenS, S.put]
     refine ⟨_, ?_, ⟨n / 2, m, 2 * p, o1, o2, a1, a2, false, by omega, hpw', ho1, ho2, b1, b2, b3, b4, fun h => absurd h (by decide), fun _ => by rw [mul2, mul2, ← e1, ← e2]; omega, rfl⟩, ?_⟩
     ·exact (Less.of rfl (by repeat (first | exact trivial | refine ⟨⟨_, rfl, Wk.refl _⟩, ?_⟩ | refine ⟨⟨_, rfl, Wk.nil _ _⟩, ?_⟩ | refine ⟨⟨_, rfl, Wk.junk _⟩, ?_⟩)) (by repeat (first | exact trivial | refine ⟨rfl, ?_⟩)) rfl)
     ·simp [S.nat, fnd]; omega
 ·obtain rfl : n = 0 := by omega
  have hNm := hpw.done
  refine AW.seq ?_
  refine AW.seq ?_
  refine AW.region ?_
  refine AL.rp rfl rfl (rp_move rfl rfl) ?_
  (first | (refine AL.rp rfl rfl (rp_gtrT rfl rfl rfl (by first | assumption | omega | (dsimp only; omega))) ?_) | (refine AL.rp rfl rfl (rp_gtrF rfl rfl rfl (by first | assumption | omega | (dsimp only; omega))) ?_) | (refine AL.rp rfl rfl (rp_gtr rfl rfl rfl) ?_))
  refine AL.nil ?_
  try simp only [thenS, S.put]
  refine AW.condF rfl ?_
  refine AW.exit ?_
  try simp only [thenS, inBlockS, ↓reduceIte, Nat.reduceEqDiff]
  refine AW.seq ?_
  refine AW.region ?_
  (first | (refine AL.rd rfl rfl (rd_loads_ref Try.underlying49 rfl inf49 rfl rfl rfl rfl rfl rfl) ?_) | (refine AL.rd rfl rfl (rd_loads_ad Try.underlying49 rfl inf49 rfl rfl rfl rfl) ?_))
  refine AL.st rfl (st_store_any inf49 rfl rfl rfl rfl rfl rfl rfl rfl (by first | decide | (simp; done) | (simp; omega)) rfl) ?_
  refine AL.rp rfl rfl (rp_assign rfl rfl) ?_
  refine AL.nil ?_
  try simp only [thenS, S.put, S.newObj, setL, V.cs, List.length_cons, List.length_nil, List.take_succ_cons, List.take_zero, List.drop_succ_cons, List.drop_zero, List.drop_nil, List.nil_append, List.cons_append, List.append_nil, Nat.zero_add, Nat.reduceAdd, List.map_cons, List.map_nil, List.set_cons_zero, List.set_cons_succ]
  refine AW.ret ?_
  exact ⟨[_, _], ⟨⟨6, 0, _, _, rfl, rfl, rfl, Try.underlying49, .inr ⟨rfl, _, _, _, _, inf49, rfl, rfl, rfl⟩⟩, rfl, trivial⟩, ⟨_, _, _, rfl, fun _ => ⟨by rw [hNm]; exact ho1, by rw [hNm]; exact ho2, b1.2, b2.2⟩, fun h => absurd h (by decide)⟩, by simp [tupOf, V.pure, V.has, V.hasL]⟩

/-- What both answer. -/
def powE (x y N : Int) : Int := if ¬ mayT x y ∨ ¬ (0 ≤ N ∧ N ≤ 1000000000) then 2 else if x = 1000000001 then 0 else if 1000000000 < x * N ∨ 1000000000 < y * N then 4 else 0
def powA (x y N : Int) : Int × Int := if powE x y N ≠ 0 then (0, 0) else if x = 1000000001 then (if N = 0 then (0, 0) else (1000000001, 1000000001)) else (x * N, y * N)
theorem am_Power (x y N : Int) : Fn Try.prog 25 [.agg [.i x, .i y], .i N] (fun v => v = .tup [.agg [.i (powA x y N).1, .i (powA x y N).2], .i (powE x y N)]) := by
 by_cases hm : mayT x y
 ·by_cases hN : 0 ≤ N ∧ N ≤ 1000000000
  ·have hm1 := Fn.decT (am_twinMay x y) hm
   by_cases hx : x = 1000000001
   ·have hE : powE x y N = 0 := by unfold powE; rw [if_neg (by simp [hm, hN]), if_pos hx]
    have hy : y = 1000000001 := by unfold mayT at hm; omega
    have hA : powA x y N = (if N = 0 then 0 else 1000000001, if N = 0 then 0 else 1000000001) := by
     unfold powA
     rw [if_neg (by simp [hE]), if_pos hx]
     split <;> rfl
    rw [hE, hA]
    have hp := am_power_none N hN
    subst hx hy
    refine Fn.intro (n := 32) ⟨Try.func25, rfl, rfl, rfl, rfl⟩ (by simp [V.pure, V.has, V.hasL]) (by simp) fun w0 out => ?_
    refine AW.seq ?_
    refine AW.region ?_
    refine AL.sm rfl (sm_box 2 rfl rfl rfl (by first | rfl | simp [S.clean, S.put, S.newObj, S.forget, V.has, V.hasL, junkIf, setL, V.cs, hasL_i, hasL_b, hasL_s, hasL_n, hasL_rep, hasL_flat, hasL_append, -List.map_set]) rfl) ?_
    refine AL.sm rfl (sm_alloc (l := [.d (.p (.int .i64 0)), .d (.p (.int .i64 0))]) 4 inf49 rfl (by first | rfl | simp [S.clean, S.put, S.newObj, S.forget, V.has, V.hasL, junkIf, setL, V.cs, hasL_i, hasL_b, hasL_s, hasL_n, hasL_rep, hasL_flat, hasL_append, -List.map_set]) rfl rfl) ?_
    refine AL.rp rfl rfl (rp_assign rfl rfl) ?_
    refine AL.nil ?_
    try simp only [thenS, S.put, S.newObj, setL, V.cs, List.length_cons, List.length_nil, List.take_succ_cons, List.take_zero, List.drop_succ_cons, List.drop_zero, List.drop_nil, List.nil_append, List.cons_append, List.append_nil, Nat.zero_add, Nat.reduceAdd, List.map_cons, List.map_nil, List.set_cons_zero, List.set_cons_succ, enum]
    refine AW.seq ?_
    refine AW.seq ?_
    refine AW.region ?_
    (first | (refine AL.rd rfl rfl (rd_loads_ref Try.underlying49 rfl inf49 rfl rfl rfl rfl rfl rfl) ?_) | (refine AL.rd rfl rfl (rd_loads_ad Try.underlying49 rfl inf49 rfl rfl rfl rfl) ?_))
    refine AL.call (post := ?pc12) rfl (sm_call (args := [_]) ?hc12 ⟨Try.func52, rfl, rfl, rfl, rfl⟩ rfl rfl rfl rfl) ?_
    case hc12 => exact hm1
    rintro _ rfl -
    try dsimp only
    refine AL.rp rfl rfl (rp_not rfl rfl) ?_
    refine AL.rp rfl rfl (rp_move rfl rfl) ?_
    (first | (refine AL.noV rfl rfl rfl rfl ?_) | (refine AL.noU rfl ⟨_, rfl, rfl⟩ rfl ?_) | (refine AL.rpy rfl rfl rfl (rp_move rfl rfl) ?_))
    (first | (refine AL.noV rfl rfl rfl rfl ?_) | (refine AL.noU rfl ⟨_, rfl, rfl⟩ rfl ?_) | (refine AL.rpy rfl rfl rfl (rp_lssT rfl rfl rfl (by first | assumption | omega | (dsimp only; omega))) ?_) | (refine AL.rpy rfl rfl rfl (rp_lssF rfl rfl rfl (by first | assumption | omega | (dsimp only; omega))) ?_) | (refine AL.rpy rfl rfl rfl (rp_lss rfl rfl rfl) ?_))
    refine AL.rp rfl rfl (rp_pick rfl rfl rfl) ?_
    refine AL.rp rfl rfl (rp_move rfl rfl) ?_
    (first | (refine AL.noV rfl rfl rfl rfl ?_) | (refine AL.noU rfl ⟨_, rfl, rfl⟩ rfl ?_) | (refine AL.rpy rfl rfl rfl (rp_move rfl rfl) ?_))
    (first | (refine AL.noV rfl rfl rfl rfl ?_) | (refine AL.noU rfl ⟨_, rfl, rfl⟩ rfl ?_) | (refine AL.rpy rfl rfl rfl (rp_gtrT rfl rfl rfl (by first | assumption | omega | (dsimp only; omega))) ?_) | (refine AL.rpy rfl rfl rfl (rp_gtrF rfl rfl rfl (by first | assumption | omega | (dsimp only; omega))) ?_) | (refine AL.rpy rfl rfl rfl (rp_gtr rfl rfl rfl) ?_))
    refine AL.rp rfl rfl (rp_pick rfl rfl rfl) ?_
    refine AL.nil ?_
    try simp only [thenS, S.put, S.newObj, setL, V.cs, List.length_cons, List.length_nil, List.take_succ_cons, List.take_zero, List.drop_succ_cons, List.drop_zero, List.drop_nil, List.nil_append, List.cons_append, List.append_nil, Nat.zero_add, Nat.reduceAdd, List.map_cons, List.map_nil, List.set_cons_zero, List.set_cons_succ]
    refine AW.condF rfl ?_
    refine AW.skip ?_
    try simp only [thenS]
    refine AW.seq ?_
    refine AW.region ?_
    refine AL.rp rfl rfl (rp_build (vs := []) (zs := []) pl102 inf102 rfl rfl rfl rfl) ?_
    refine AL.rp rfl rfl (rp_mkI rfl rfl (fun _ _ _ _ h => agg0_eq h) (fun w => mkI_102 w)) ?_
    (first | (refine AL.rd rfl rfl (rd_loads_ref Try.underlying49 rfl inf49 rfl rfl rfl rfl rfl rfl) ?_) | (refine AL.rd rfl rfl (rd_loads_ad Try.underlying49 rfl inf49 rfl rfl rfl rfl) ?_))
    refine AL.rp rfl rfl (rp_move rfl rfl) ?_
    refine AL.call (post := ?pc13) rfl (sm_call (args := [_, _, _]) ?hc13 ⟨Try.func53, rfl, rfl, rfl, rfl⟩ rfl rfl rfl rfl) ?_
    case hc13 => exact hp
    rintro _ rfl -
    try dsimp only
    refine AL.rp rfl rfl (rp_move rfl rfl) ?_
    refine AL.rp rfl rfl (rp_extract rfl rfl rfl) ?_
    refine AL.rp rfl rfl (rp_extract rfl rfl rfl) ?_
    refine AL.sm rfl (sm_alloc (l := [.d (.p (.int .i64 0)), .d (.p (.int .i64 0))]) 6 inf49 rfl (by first | rfl | simp [S.clean, S.put, S.newObj, S.forget, V.has, V.hasL, junkIf, setL, V.cs, hasL_i, hasL_b, hasL_s, hasL_n, hasL_rep, hasL_flat, hasL_append, -List.map_set]) rfl rfl) ?_
    refine AL.st rfl (st_store_any inf49 rfl rfl rfl rfl rfl rfl rfl rfl (by first | decide | (simp; done) | (simp; omega)) rfl) ?_
    refine AL.rp rfl rfl (rp_assign rfl rfl) ?_
    refine AL.nil ?_
    try simp only [thenS, S.put, S.newObj, setL, V.cs, List.length_cons, List.length_nil, List.take_succ_cons, List.take_zero, List.drop_succ_cons, List.drop_zero, List.drop_nil, List.nil_append, List.cons_append, List.append_nil, Nat.zero_add, Nat.reduceAdd, List.map_cons, List.map_nil, List.set_cons_zero, List.set_cons_succ]
    refine AW.seq ?_
    refine AW.seq ?_
    refine AW.region ?_
    refine AL.rp rfl rfl (rp_move rfl rfl) ?_
    refine AL.rp rfl rfl (rp_not rfl rfl) ?_
    refine AL.nil ?_
    try simp only [thenS, S.put]
    refine AW.condF rfl ?_
    refine AW.skip ?_
    try simp only [thenS]
    refine AW.seq ?_
    refine AW.region ?_
    (first | (refine AL.rd rfl rfl (rd_loads_ref Try.underlying49 rfl inf49 rfl rfl rfl rfl rfl rfl) ?_) | (refine AL.rd rfl rfl (rd_loads_ad Try.underlying49 rfl inf49 rfl rfl rfl rfl) ?_))
    refine AL.st rfl (st_store_any inf49 rfl rfl rfl rfl rfl rfl rfl rfl (by first | decide | (simp; done) | (simp; omega)) rfl) ?_
    refine AL.rp rfl rfl (rp_assign rfl rfl) ?_
    refine AL.nil ?_
    try simp only [thenS, S.put, S.newObj, setL, V.cs, List.length_cons, List.length_nil, List.take_succ_cons, List.take_zero, List.drop_succ_cons, List.drop_zero, List.drop_nil, List.nil_append, List.cons_append, List.append_nil, Nat.zero_add, Nat.reduceAdd, List.map_cons, List.map_nil, List.set_cons_zero, List.set_cons_succ]
    refine AW.ret ?_
    exact ⟨[_, _], ⟨⟨4, 0, _, _, rfl, rfl, rfl, Try.underlying49, .inr ⟨rfl, _, _, _, _, inf49, rfl, rfl, rfl⟩⟩, rfl, trivial⟩, rfl, by simp [tupOf, V.pure, V.has, V.hasL]⟩
   ·have hb : (0 ≤ x ∧ x ≤ 1000000000) ∧ (0 ≤ y ∧ y ≤ 1000000000) := by unfold mayT at hm; omega
    by_cases ho : 1000000000 < x * N ∨ 1000000000 < y * N
    ·have hE : powE x y N = 4 := by unfold powE; rw [if_neg (by simp [hm, hN]), if_neg hx, if_pos ho]
     have hA : powA x y N = (0, 0) := by unfold powA; rw [if_pos (by simp [hE])]
     rw [hE, hA]
     have hp : Fn Try.prog 53 [twI, .agg [.i x, .i y], .i N] (fun v => ∃ r1 r2, v = .tup [.agg [.i r1, .i r2], .b false]) := (am_power x y N hb.1 hb.2 hN).mono fun v ⟨r1, r2, ok, h1, h2, h3⟩ => by
      cases ok with
      | false => exact ⟨r1, r2, h1⟩
      | true => have := h2 rfl; omega
     refine Fn.intro (n := 32) ⟨Try.func25, rfl, rfl, rfl, rfl⟩ (by simp [V.pure, V.has, V.hasL]) (by simp) fun w0 out => ?_
     refine AW.seq ?_
     refine AW.region ?_
     refine AL.sm rfl (sm_box 2 rfl rfl rfl (by first | rfl | simp [S.clean, S.put, S.newObj, S.forget, V.has, V.hasL, junkIf, setL, V.cs, hasL_i, hasL_b, hasL_s, hasL_n, hasL_rep, hasL_flat, hasL_append, -List.map_set]) rfl) ?_
     refine AL.sm rfl (sm_alloc (l := [.d (.p (.int .i64 0)), .d (.p (.int .i64 0))]) 4 inf49 rfl (by first | rfl | simp [S.clean, S.put, S.newObj, S.forget, V.has, V.hasL, junkIf, setL, V.cs, hasL_i, hasL_b, hasL_s, hasL_n, hasL_rep, hasL_flat, hasL_append, -List.map_set]) rfl rfl) ?_
     refine AL.rp rfl rfl (rp_assign rfl rfl) ?_
     refine AL.nil ?_
     try simp only [thenS, S.put, S.newObj, setL, V.cs, List.length_cons, List.length_nil, List.take_succ_cons, List.take_zero, List.drop_succ_cons, List.drop_zero, List.drop_nil, List.nil_append, List.cons_append, List.append_nil, Nat.zero_add, Nat.reduceAdd, List.map_cons, List.map_nil, List.set_cons_zero, List.set_cons_succ, enum]
     refine AW.seq ?_
     refine AW.seq ?_
     refine AW.region ?_
     (first | (refine AL.rd rfl rfl (rd_loads_ref Try.underlying49 rfl inf49 rfl rfl rfl rfl rfl rfl) ?_) | (refine AL.rd rfl rfl (rd_loads_ad Try.underlying49 rfl inf49 rfl rfl rfl rfl) ?_))
     refine AL.call (post := ?pc14) rfl (sm_call (args := [_]) ?hc14 ⟨Try.func52, rfl, rfl, rfl, rfl⟩ rfl rfl rfl rfl) ?_
     case hc14 => exact hm1
     rintro _ rfl -
     try dsimp only
     refine AL.rp rfl rfl (rp_not rfl rfl) ?_
     refine AL.rp rfl rfl (rp_move rfl rfl) ?_
     (first | (refine AL.noV rfl rfl rfl rfl ?_) | (refine AL.noU rfl ⟨_, rfl, rfl⟩ rfl ?_) | (refine AL.rpy rfl rfl rfl (rp_move rfl rfl) ?_))
     (first | (refine AL.noV rfl rfl rfl rfl ?_) | (refine AL.noU rfl ⟨_, rfl, rfl⟩ rfl ?_) | (refine AL.rpy rfl rfl rfl (rp_lssT rfl rfl rfl (by first | assumption | omega | (dsimp only; omega))) ?_) | (refine AL.rpy rfl rfl rfl (rp_lssF rfl rfl rfl (by first | assumption | omega | (dsimp only; omega))) ?_) | (refine AL.rpy rfl rfl rfl (rp_lss rfl rfl rfl) ?_))
     refine AL.rp rfl rfl (rp_pick rfl rfl rfl) ?_
     refine AL.rp rfl rfl (rp_move rfl rfl) ?_
     (first | (refine AL.noV rfl rfl rfl rfl ?_) | (refine AL.noU rfl ⟨_, rfl, rfl⟩ rfl ?_) | (refine AL.rpy rfl rfl rfl (rp_move rfl rfl) ?_))
     (first | (refine AL.noV rfl rfl rfl rfl ?_) | (refine AL.noU rfl ⟨_, rfl, rfl⟩ rfl ?_) | (refine AL.rpy rfl rfl rfl (rp_gtrT rfl rfl rfl (by first | assumption | omega | (dsimp only; omega))) ?_) | (refine AL.rpy rfl rfl rfl (rp_gtrF rfl rfl rfl (by first | assumption | omega | (dsimp only; omega))) ?_) | (refine AL.rpy rfl rfl rfl (rp_gtr rfl rfl rfl) ?_))
     refine AL.rp rfl rfl (rp_pick rfl rfl rfl) ?_
     refine AL.nil ?_
     try simp only [thenS, S.put, S.newObj, setL, V.cs, List.length_cons, List.length_nil, List.take_succ_cons, List.take_zero, List.drop_succ_cons, List.drop_zero, List.drop_nil, List.nil_append, List.cons_append, List.append_nil, Nat.zero_add, Nat.reduceAdd, List.map_cons, List.map_nil, List.set_cons_zero, List.set_cons_succ]
     refine AW.condF rfl ?_
     refine AW.skip ?_
     try simp only [thenS]
     refine AW.seq ?_
     refine AW.region ?_
     refine AL.rp rfl rfl (rp_build (vs := []) (zs := []) pl102 inf102 rfl rfl rfl rfl) ?_
     refine AL.rp rfl rfl (rp_mkI rfl rfl (fun _ _ _ _ h => agg0_eq h) (fun w => mkI_102 w)) ?_
     (first | (refine AL.rd rfl rfl (rd_loads_ref Try.underlying49 rfl inf49 rfl rfl rfl rfl rfl rfl) ?_) | (refine AL.rd rfl rfl (rd_loads_ad Try.underlying49 rfl inf49 rfl rfl rfl rfl) ?_))
     refine AL.rp rfl rfl (rp_move rfl rfl) ?_
     refine AL.call (post := ?pc15) rfl (sm_call (args := [_, _, _]) ?hc15 ⟨Try.func53, rfl, rfl, rfl, rfl⟩ rfl rfl rfl rfl) ?_
     case hc15 => exact hp
     rintro _ ⟨r1, r2, rfl⟩ -
     try dsimp only
     refine AL.rp rfl rfl (rp_move rfl rfl) ?_
     refine AL.rp rfl rfl (rp_extract rfl rfl rfl) ?_
     refine AL.rp rfl rfl (rp_extract rfl rfl rfl) ?_
     refine AL.sm rfl (sm_alloc (l := [.d (.p (.int .i64 0)), .d (.p (.int .i64 0))]) 6 inf49 rfl (by first | rfl | simp [S.clean, S.put, S.newObj, S.forget, V.has, V.hasL, junkIf, setL, V.cs, hasL_i, hasL_b, hasL_s, hasL_n, hasL_rep, hasL_flat, hasL_append, -List.map_set]) rfl rfl) ?_
     refine AL.st rfl (st_store_any inf49 rfl rfl rfl rfl rfl rfl rfl rfl (by first | decide | (simp; done) | (simp; omega)) rfl) ?_
     refine AL.rp rfl rfl (rp_assign rfl rfl) ?_
     refine AL.nil ?_
     try simp only [thenS, S.put, S.newObj, setL, V.cs, List.length_cons, List.length_nil, List.take_succ_cons, List.take_zero, List.drop_succ_cons, List.drop_zero, List.drop_nil, List.nil_append, List.cons_append, List.append_nil, Nat.zero_add, Nat.reduceAdd, List.map_cons, List.map_nil, List.set_cons_zero, List.set_cons_succ]
     refine AW.seq ?_
     refine AW.seq ?_
     refine AW.region ?_
     refine AL.rp rfl rfl (rp_move rfl rfl) ?_
     refine AL.rp rfl rfl (rp_not rfl rfl) ?_
     refine AL.nil ?_
     try simp only [thenS, S.put]
     refine AW.condT rfl ?_
     refine AW.seq ?_
     refine AW.region ?_
     refine AL.rp rfl rfl (rp_build (vs := []) (zs := [.d (.p (.int .i64 0)), .d (.p (.int .i64 0))]) pl49 inf49 rfl rfl rfl rfl) ?_
     refine AL.st rfl (st_store_any inf49 rfl rfl rfl rfl rfl rfl rfl rfl (by first | decide | (simp; done) | (simp; omega)) rfl) ?_
     refine AL.rp rfl rfl (rp_assign rfl rfl) ?_
     refine AL.nil ?_
     try simp only [thenS, S.put, S.newObj, setL, V.cs, List.length_cons, List.length_nil, List.take_succ_cons, List.take_zero, List.drop_succ_cons, List.drop_zero, List.drop_nil, List.nil_append, List.cons_append, List.append_nil, Nat.zero_add, Nat.reduceAdd, List.map_cons, List.map_nil, List.set_cons_zero, List.set_cons_succ]
     refine AW.ret ?_
     exact ⟨[_, _], ⟨⟨4, 0, _, _, rfl, rfl, rfl, Try.underlying49, .inr ⟨rfl, _, _, _, _, inf49, rfl, rfl, rfl⟩⟩, rfl, trivial⟩, rfl, by simp [tupOf, V.pure, V.has, V.hasL]⟩
    ·have hE : powE x y N = 0 := by unfold powE; rw [if_neg (by simp [hm, hN]), if_neg hx, if_neg ho]
     have hA : powA x y N = (x * N, y * N) := by unfold powA; rw [if_neg (by simp [hE]), if_neg hx]
     rw [hE, hA]
     have hp : Fn Try.prog 53 [twI, .agg [.i x, .i y], .i N] (fun v => v = .tup [.agg [.i (x * N), .i (y * N)], .b true]) := (am_power x y N hb.1 hb.2 hN).mono fun v ⟨r1, r2, ok, h1, h2, h3⟩ => by
      cases ok with
      | false => have := h3 rfl; omega
      | true => obtain ⟨rfl, rfl, _, _⟩ := h2 rfl; exact h1
     refine Fn.intro (n := 32) ⟨Try.func25, rfl, rfl, rfl, rfl⟩ (by simp [V.pure, V.has, V.hasL]) (by simp) fun w0 out => ?_
     refine AW.seq ?_
     refine AW.region ?_
     refine AL.sm rfl (sm_box 2 rfl rfl rfl (by first | rfl | simp [S.clean, S.put, S.newObj, S.forget, V.has, V.hasL, junkIf, setL, V.cs, hasL_i, hasL_b, hasL_s, hasL_n, hasL_rep, hasL_flat, hasL_append, -List.map_set]) rfl) ?_
     refine AL.sm rfl (sm_alloc (l := [.d (.p (.int .i64 0)), .d (.p (.int .i64 0))]) 4 inf49 rfl (by first | rfl | simp [S.clean, S.put, S.newObj, S.forget, V.has, V.hasL, junkIf, setL, V.cs, hasL_i, hasL_b, hasL_s, hasL_n, hasL_rep, hasL_flat, hasL_append, -List.map_set]) rfl rfl) ?_
     refine AL.rp rfl rfl (rp_assign rfl rfl) ?_
     refine AL.nil ?_
     try simp only [thenS, S.put, S.newObj, setL, V.cs, List.length_cons, List.length_nil, List.take_succ_cons, List.take_zero, List.drop_succ_cons, List.drop_zero, List.drop_nil, List.nil_append, List.cons_append, List.append_nil, Nat.zero_add, Nat.reduceAdd, List.map_cons, List.map_nil, List.set_cons_zero, List.set_cons_succ, enum]
     refine AW.seq ?_
     refine AW.seq ?_
     refine AW.region ?_
     (first | (refine AL.rd rfl rfl (rd_loads_ref Try.underlying49 rfl inf49 rfl rfl rfl rfl rfl rfl) ?_) | (refine AL.rd rfl rfl (rd_loads_ad Try.underlying49 rfl inf49 rfl rfl rfl rfl) ?_))
     refine AL.call (post := ?pc16) rfl (sm_call (args := [_]) ?hc16 ⟨Try.func52, rfl, rfl, rfl, rfl⟩ rfl rfl rfl rfl) ?_
     case hc16 => exact hm1
     rintro _ rfl -
     try dsimp only
     refine AL.rp rfl rfl (rp_not rfl rfl) ?_
     refine AL.rp rfl rfl (rp_move rfl rfl) ?_
     (first | (refine AL.noV rfl rfl rfl rfl ?_) | (refine AL.noU rfl ⟨_, rfl, rfl⟩ rfl ?_) | (refine AL.rpy rfl rfl rfl (rp_move rfl rfl) ?_))
     (first | (refine AL.noV rfl rfl rfl rfl ?_) | (refine AL.noU rfl ⟨_, rfl, rfl⟩ rfl ?_) | (refine AL.rpy rfl rfl rfl (rp_lssT rfl rfl rfl (by first | assumption | omega | (dsimp only; omega))) ?_) | (refine AL.rpy rfl rfl rfl (rp_lssF rfl rfl rfl (by first | assumption | omega | (dsimp only; omega))) ?_) | (refine AL.rpy rfl rfl rfl (rp_lss rfl rfl rfl) ?_))
     refine AL.rp rfl rfl (rp_pick rfl rfl rfl) ?_
     refine AL.rp rfl rfl (rp_move rfl rfl) ?_
     (first | (refine AL.noV rfl rfl rfl rfl ?_) | (refine AL.noU rfl ⟨_, rfl, rfl⟩ rfl ?_) | (refine AL.rpy rfl rfl rfl (rp_move rfl rfl) ?_))
     (first | (refine AL.noV rfl rfl rfl rfl ?_) | (refine AL.noU rfl ⟨_, rfl, rfl⟩ rfl ?_) | (refine AL.rpy rfl rfl rfl (rp_gtrT rfl rfl rfl (by first | assumption | omega | (dsimp only; omega))) ?_) | (refine AL.rpy rfl rfl rfl (rp_gtrF rfl rfl rfl (by first | assumption | omega | (dsimp only; omega))) ?_) | (refine AL.rpy rfl rfl rfl (rp_gtr rfl rfl rfl) ?_))
     refine AL.rp rfl rfl (rp_pick rfl rfl rfl) ?_
     refine AL.nil ?_
     try simp only [thenS, S.put, S.newObj, setL, V.cs, List.length_cons, List.length_nil, List.take_succ_cons, List.take_zero, List.drop_succ_cons, List.drop_zero, List.drop_nil, List.nil_append, List.cons_append, List.append_nil, Nat.zero_add, Nat.reduceAdd, List.map_cons, List.map_nil, List.set_cons_zero, List.set_cons_succ]
     refine AW.condF rfl ?_
     refine AW.skip ?_
     try simp only [thenS]
     refine AW.seq ?_
     refine AW.region ?_
     refine AL.rp rfl rfl (rp_build (vs := []) (zs := []) pl102 inf102 rfl rfl rfl rfl) ?_
     refine AL.rp rfl rfl (rp_mkI rfl rfl (fun _ _ _ _ h => agg0_eq h) (fun w => mkI_102 w)) ?_
     (first | (refine AL.rd rfl rfl (rd_loads_ref Try.underlying49 rfl inf49 rfl rfl rfl rfl rfl rfl) ?_) | (refine AL.rd rfl rfl (rd_loads_ad Try.underlying49 rfl inf49 rfl rfl rfl rfl) ?_))
     refine AL.rp rfl rfl (rp_move rfl rfl) ?_
     refine AL.call (post := ?pc17) rfl (sm_call (args := [_, _, _]) ?hc17 ⟨Try.func53, rfl, rfl, rfl, rfl⟩ rfl rfl rfl rfl) ?_
     case hc17 => exact hp
     rintro _ rfl -
     try dsimp only
     refine AL.rp rfl rfl (rp_move rfl rfl) ?_
     refine AL.rp rfl rfl (rp_extract rfl rfl rfl) ?_
     refine AL.rp rfl rfl (rp_extract rfl rfl rfl) ?_
     refine AL.sm rfl (sm_alloc (l := [.d (.p (.int .i64 0)), .d (.p (.int .i64 0))]) 6 inf49 rfl (by first | rfl | simp [S.clean, S.put, S.newObj, S.forget, V.has, V.hasL, junkIf, setL, V.cs, hasL_i, hasL_b, hasL_s, hasL_n, hasL_rep, hasL_flat, hasL_append, -List.map_set]) rfl rfl) ?_
     refine AL.st rfl (st_store_any inf49 rfl rfl rfl rfl rfl rfl rfl rfl (by first | decide | (simp; done) | (simp; omega)) rfl) ?_
     refine AL.rp rfl rfl (rp_assign rfl rfl) ?_
     refine AL.nil ?_
     try simp only [thenS, S.put, S.newObj, setL, V.cs, List.length_cons, List.length_nil, List.take_succ_cons, List.take_zero, List.drop_succ_cons, List.drop_zero, List.drop_nil, List.nil_append, List.cons_append, List.append_nil, Nat.zero_add, Nat.reduceAdd, List.map_cons, List.map_nil, List.set_cons_zero, List.set_cons_succ]
     refine AW.seq ?_
     refine AW.seq ?_
     refine AW.region ?_
     refine AL.rp rfl rfl (rp_move rfl rfl) ?_
     refine AL.rp rfl rfl (rp_not rfl rfl) ?_
     refine AL.nil ?_
     try simp only [thenS, S.put]
     refine AW.condF rfl ?_
     refine AW.skip ?_
     try simp only [thenS]
     refine AW.seq ?_
     refine AW.region ?_
     (first | (refine AL.rd rfl rfl (rd_loads_ref Try.underlying49 rfl inf49 rfl rfl rfl rfl rfl rfl) ?_) | (refine AL.rd rfl rfl (rd_loads_ad Try.underlying49 rfl inf49 rfl rfl rfl rfl) ?_))
     refine AL.st rfl (st_store_any inf49 rfl rfl rfl rfl rfl rfl rfl rfl (by first | decide | (simp; done) | (simp; omega)) rfl) ?_
     refine AL.rp rfl rfl (rp_assign rfl rfl) ?_
     refine AL.nil ?_
     try simp only [thenS, S.put, S.newObj, setL, V.cs, List.length_cons, List.length_nil, List.take_succ_cons, List.take_zero, List.drop_succ_cons, List.drop_zero, List.drop_nil, List.nil_append, List.cons_append, List.append_nil, Nat.zero_add, Nat.reduceAdd, List.map_cons, List.map_nil, List.set_cons_zero, List.set_cons_succ]
     refine AW.ret ?_
     exact ⟨[_, _], ⟨⟨4, 0, _, _, rfl, rfl, rfl, Try.underlying49, .inr ⟨rfl, _, _, _, _, inf49, rfl, rfl, rfl⟩⟩, rfl, trivial⟩, rfl, by simp [tupOf, V.pure, V.has, V.hasL]⟩
  ·have hE : powE x y N = 2 := by unfold powE; rw [if_pos (.inr hN)]
   have hA : powA x y N = (0, 0) := by unfold powA; rw [if_pos (by simp [hE])]
   rw [hE, hA]
   have hm1 := Fn.decT (am_twinMay x y) hm
   rcases (show N < 0 ∨ (¬ N < 0 ∧ 1000000000 < N) by omega) with h | h
   ·refine Fn.intro (n := 32) ⟨Try.func25, rfl, rfl, rfl, rfl⟩ (by simp [V.pure, V.has, V.hasL]) (by simp) fun w0 out => ?_
    refine AW.seq ?_
    refine AW.region ?_
    refine AL.sm rfl (sm_box 2 rfl rfl rfl (by first | rfl | simp [S.clean, S.put, S.newObj, S.forget, V.has, V.hasL, junkIf, setL, V.cs, hasL_i, hasL_b, hasL_s, hasL_n, hasL_rep, hasL_flat, hasL_append, -List.map_set]) rfl) ?_
    refine AL.sm rfl (sm_alloc (l := [.d (.p (.int .i64 0)), .d (.p (.int .i64 0))]) 4 inf49 rfl (by first | rfl | simp [S.clean, S.put, S.newObj, S.forget, V.has, V.hasL, junkIf, setL, V.cs, hasL_i, hasL_b, hasL_s, hasL_n, hasL_rep, hasL_flat, hasL_append, -List.map_set]) rfl rfl) ?_
    refine AL.rp rfl rfl (rp_assign rfl rfl) ?_
    refine AL.nil ?_
    try simp only [thenS, S.put, S.newObj, setL, V.cs, List.length_cons, List.length_nil, List.take_succ_cons, List.take_zero, List.drop_succ_cons, List.drop_zero, List.drop_nil, List.nil_append, List.cons_append, List.append_nil, Nat.zero_add, Nat.reduceAdd, List.map_cons, List.map_nil, List.set_cons_zero, List.set_cons_succ, enum]
    refine AW.seq ?_
    refine AW.seq ?_
    refine AW.region ?_
    (first | (refine AL.rd rfl rfl (rd_loads_ref Try.underlying49 rfl inf49 rfl rfl rfl rfl rfl rfl) ?_) | (refine AL.rd rfl rfl (rd_loads_ad Try.underlying49 rfl inf49 rfl rfl rfl rfl) ?_))
    refine AL.call (post := ?pc18) rfl (sm_call (args := [_]) ?hc18 ⟨Try.func52, rfl, rfl, rfl, rfl⟩ rfl rfl rfl rfl) ?_
    case hc18 => exact hm1
    rintro _ rfl -
    try dsimp only
    refine AL.rp rfl rfl (rp_not rfl rfl) ?_
    refine AL.rp rfl rfl (rp_move rfl rfl) ?_
    (first | (refine AL.noV rfl rfl rfl rfl ?_) | (refine AL.noU rfl ⟨_, rfl, rfl⟩ rfl ?_) | (refine AL.rpy rfl rfl rfl (rp_move rfl rfl) ?_))
    (first | (refine AL.noV rfl rfl rfl rfl ?_) | (refine AL.noU rfl ⟨_, rfl, rfl⟩ rfl ?_) | (refine AL.rpy rfl rfl rfl (rp_lssT rfl rfl rfl (by first | assumption | omega | (dsimp only; omega))) ?_) | (refine AL.rpy rfl rfl rfl (rp_lssF rfl rfl rfl (by first | assumption | omega | (dsimp only; omega))) ?_) | (refine AL.rpy rfl rfl rfl (rp_lss rfl rfl rfl) ?_))
    refine AL.rp rfl rfl (rp_pick rfl rfl rfl) ?_
    refine AL.rp rfl rfl (rp_move rfl rfl) ?_
    (first | (refine AL.noV rfl rfl rfl rfl ?_) | (refine AL.noU rfl ⟨_, rfl, rfl⟩ rfl ?_) | (refine AL.rpy rfl rfl rfl (rp_move rfl rfl) ?_))
    (first | (refine AL.noV rfl rfl rfl rfl ?_) | (refine AL.noU rfl ⟨_, rfl, rfl⟩ rfl ?_) | (refine AL.rpy rfl rfl rfl (rp_gtrT rfl rfl rfl (by first | assumption | omega | (dsimp only; omega))) ?_) | (refine AL.rpy rfl rfl rfl (rp_gtrF rfl rfl rfl (by first | assumption | omega | (dsimp only; omega))) ?_) | (refine AL.rpy rfl rfl rfl (rp_gtr rfl rfl rfl) ?_))
    refine AL.rp rfl rfl (rp_pick rfl rfl rfl) ?_
    refine AL.nil ?_
    try simp only [thenS, S.put, S.newObj, setL, V.cs, List.length_cons, List.length_nil, List.take_succ_cons, List.take_zero, List.drop_succ_cons, List.drop_zero, List.drop_nil, List.nil_append, List.cons_append, List.append_nil, Nat.zero_add, Nat.reduceAdd, List.map_cons, List.map_nil, List.set_cons_zero, List.set_cons_succ]
    refine AW.condT rfl ?_
    refine AW.seq ?_
    refine AW.region ?_
    refine AL.rp rfl rfl (rp_build (vs := []) (zs := [.d (.p (.int .i64 0)), .d (.p (.int .i64 0))]) pl49 inf49 rfl rfl rfl rfl) ?_
    refine AL.st rfl (st_store_any inf49 rfl rfl rfl rfl rfl rfl rfl rfl (by first | decide | (simp; done) | (simp; omega)) rfl) ?_
    refine AL.rp rfl rfl (rp_assign rfl rfl) ?_
    refine AL.nil ?_
    try simp only [thenS, S.put, S.newObj, setL, V.cs, List.length_cons, List.length_nil, List.take_succ_cons, List.take_zero, List.drop_succ_cons, List.drop_zero, List.drop_nil, List.nil_append, List.cons_append, List.append_nil, Nat.zero_add, Nat.reduceAdd, List.map_cons, List.map_nil, List.set_cons_zero, List.set_cons_succ]
    refine AW.ret ?_
    exact ⟨[_, _], ⟨⟨4, 0, _, _, rfl, rfl, rfl, Try.underlying49, .inr ⟨rfl, _, _, _, _, inf49, rfl, rfl, rfl⟩⟩, rfl, trivial⟩, rfl, by simp [tupOf, V.pure, V.has, V.hasL]⟩
   ·refine Fn.intro (n := 32) ⟨Try.func25, rfl, rfl, rfl, rfl⟩ (by simp [V.pure, V.has, V.hasL]) (by simp) fun w0 out => ?_
    refine AW.seq ?_
    refine AW.region ?_
    refine AL.sm rfl (sm_box 2 rfl rfl rfl (by first | rfl | simp [S.clean, S.put, S.newObj, S.forget, V.has, V.hasL, junkIf, setL, V.cs, hasL_i, hasL_b, hasL_s, hasL_n, hasL_rep, hasL_flat, hasL_append, -List.map_set]) rfl) ?_
    refine AL.sm rfl (sm_alloc (l := [.d (.p (.int .i64 0)), .d (.p (.int .i64 0))]) 4 inf49 rfl (by first | rfl | simp [S.clean, S.put, S.newObj, S.forget, V.has, V.hasL, junkIf, setL, V.cs, hasL_i, hasL_b, hasL_s, hasL_n, hasL_rep, hasL_flat, hasL_append, -List.map_set]) rfl rfl) ?_
    refine AL.rp rfl rfl (rp_assign rfl rfl) ?_
    refine AL.nil ?_
    try simp only [thenS, S.put, S.newObj, setL, V.cs, List.length_cons, List.length_nil, List.take_succ_cons, List.take_zero, List.drop_succ_cons, List.drop_zero, List.drop_nil, List.nil_append, List.cons_append, List.append_nil, Nat.zero_add, Nat.reduceAdd, List.map_cons, List.map_nil, List.set_cons_zero, List.set_cons_succ, enum]
    refine AW.seq ?_
    refine AW.seq ?_
    refine AW.region ?_
    (first | (refine AL.rd rfl rfl (rd_loads_ref Try.underlying49 rfl inf49 rfl rfl rfl rfl rfl rfl) ?_) | (refine AL.rd rfl rfl (rd_loads_ad Try.underlying49 rfl inf49 rfl rfl rfl rfl) ?_))
    refine AL.call (post := ?pc19) rfl (sm_call (args := [_]) ?hc19 ⟨Try.func52, rfl, rfl, rfl, rfl⟩ rfl rfl rfl rfl) ?_
    case hc19 => exact hm1
    rintro _ rfl -
    try dsimp only
    refine AL.rp rfl rfl (rp_not rfl rfl) ?_
    refine AL.rp rfl rfl (rp_move rfl rfl) ?_
    (first | (refine AL.noV rfl rfl rfl rfl ?_) | (refine AL.noU rfl ⟨_, rfl, rfl⟩ rfl ?_) | (refine AL.rpy rfl rfl rfl (rp_move rfl rfl) ?_))
    (first | (refine AL.noV rfl rfl rfl rfl ?_) | (refine AL.noU rfl ⟨_, rfl, rfl⟩ rfl ?_) | (refine AL.rpy rfl rfl rfl (rp_lssT rfl rfl rfl (by first | assumption | omega | (dsimp only; omega))) ?_) | (refine AL.rpy rfl rfl rfl (rp_lssF rfl rfl rfl (by first | assumption | omega | (dsimp only; omega))) ?_) | (refine AL.rpy rfl rfl rfl (rp_lss rfl rfl rfl) ?_))
    refine AL.rp rfl rfl (rp_pick rfl rfl rfl) ?_
    refine AL.rp rfl rfl (rp_move rfl rfl) ?_
    (first | (refine AL.noV rfl rfl rfl rfl ?_) | (refine AL.noU rfl ⟨_, rfl, rfl⟩ rfl ?_) | (refine AL.rpy rfl rfl rfl (rp_move rfl rfl) ?_))
    (first | (refine AL.noV rfl rfl rfl rfl ?_) | (refine AL.noU rfl ⟨_, rfl, rfl⟩ rfl ?_) | (refine AL.rpy rfl rfl rfl (rp_gtrT rfl rfl rfl (by first | assumption | omega | (dsimp only; omega))) ?_) | (refine AL.rpy rfl rfl rfl (rp_gtrF rfl rfl rfl (by first | assumption | omega | (dsimp only; omega))) ?_) | (refine AL.rpy rfl rfl rfl (rp_gtr rfl rfl rfl) ?_))
    refine AL.rp rfl rfl (rp_pick rfl rfl rfl) ?_
    refine AL.nil ?_
    try simp only [thenS, S.put, S.newObj, setL, V.cs, List.length_cons, List.length_nil, List.take_succ_cons, List.take_zero, List.drop_succ_cons, List.drop_zero, List.drop_nil, List.nil_append, List.cons_append, List.append_nil, Nat.zero_add, Nat.reduceAdd, List.map_cons, List.map_nil, List.set_cons_zero, List.set_cons_succ]
    refine AW.condT rfl ?_
    refine AW.seq ?_
    refine AW.region ?_
    refine AL.rp rfl rfl (rp_build (vs := []) (zs := [.d (.p (.int .i64 0)), .d (.p (.int .i64 0))]) pl49 inf49 rfl rfl rfl rfl) ?_
    refine AL.st rfl (st_store_any inf49 rfl rfl rfl rfl rfl rfl rfl rfl (by first | decide | (simp; done) | (simp; omega)) rfl) ?_
    refine AL.rp rfl rfl (rp_assign rfl rfl) ?_
    refine AL.nil ?_
    try simp only [thenS, S.put, S.newObj, setL, V.cs, List.length_cons, List.length_nil, List.take_succ_cons, List.take_zero, List.drop_succ_cons, List.drop_zero, List.drop_nil, List.nil_append, List.cons_append, List.append_nil, Nat.zero_add, Nat.reduceAdd, List.map_cons, List.map_nil, List.set_cons_zero, List.set_cons_succ]
    refine AW.ret ?_
    exact ⟨[_, _], ⟨⟨4, 0, _, _, rfl, rfl, rfl, Try.underlying49, .inr ⟨rfl, _, _, _, _, inf49, rfl, rfl, rfl⟩⟩, rfl, trivial⟩, rfl, by simp [tupOf, V.pure, V.has, V.hasL]⟩
 ·have hE : powE x y N = 2 := by unfold powE; rw [if_pos (.inl hm)]
  have hA : powA x y N = (0, 0) := by unfold powA; rw [if_pos (by simp [hE])]
  rw [hE, hA]
  have hm1 := Fn.decF (am_twinMay x y) hm
  refine Fn.intro (n := 32) ⟨Try.func25, rfl, rfl, rfl, rfl⟩ (by simp [V.pure, V.has, V.hasL]) (by simp) fun w0 out => ?_
  refine AW.seq ?_
  refine AW.region ?_
  refine AL.sm rfl (sm_box 2 rfl rfl rfl (by first | rfl | simp [S.clean, S.put, S.newObj, S.forget, V.has, V.hasL, junkIf, setL, V.cs, hasL_i, hasL_b, hasL_s, hasL_n, hasL_rep, hasL_flat, hasL_append, -List.map_set]) rfl) ?_
  refine AL.sm rfl (sm_alloc (l := [.d (.p (.int .i64 0)), .d (.p (.int .i64 0))]) 4 inf49 rfl (by first | rfl | simp [S.clean, S.put, S.newObj, S.forget, V.has, V.hasL, junkIf, setL, V.cs, hasL_i, hasL_b, hasL_s, hasL_n, hasL_rep, hasL_flat, hasL_append, -List.map_set]) rfl rfl) ?_
  refine AL.rp rfl rfl (rp_assign rfl rfl) ?_
  refine AL.nil ?_
  try simp only [thenS, S.put, S.newObj, setL, V.cs, List.length_cons, List.length_nil, List.take_succ_cons, List.take_zero, List.drop_succ_cons, List.drop_zero, List.drop_nil, List.nil_append, List.cons_append, List.append_nil, Nat.zero_add, Nat.reduceAdd, List.map_cons, List.map_nil, List.set_cons_zero, List.set_cons_succ, enum]
  refine AW.seq ?_
  refine AW.seq ?_
  refine AW.region ?_
  (first | (refine AL.rd rfl rfl (rd_loads_ref Try.underlying49 rfl inf49 rfl rfl rfl rfl rfl rfl) ?_) | (refine AL.rd rfl rfl (rd_loads_ad Try.underlying49 rfl inf49 rfl rfl rfl rfl) ?_))
  refine AL.call (post := ?pc20) rfl (sm_call (args := [_]) ?hc20 ⟨Try.func52, rfl, rfl, rfl, rfl⟩ rfl rfl rfl rfl) ?_
  case hc20 => exact hm1
  rintro _ rfl -
  try dsimp only
  refine AL.rp rfl rfl (rp_not rfl rfl) ?_
  refine AL.rp rfl rfl (rp_move rfl rfl) ?_
  (first | (refine AL.noV rfl rfl rfl rfl ?_) | (refine AL.noU rfl ⟨_, rfl, rfl⟩ rfl ?_) | (refine AL.rpy rfl rfl rfl (rp_move rfl rfl) ?_))
  (first | (refine AL.noV rfl rfl rfl rfl ?_) | (refine AL.noU rfl ⟨_, rfl, rfl⟩ rfl ?_) | (refine AL.rpy rfl rfl rfl (rp_lssT rfl rfl rfl (by first | assumption | omega | (dsimp only; omega))) ?_) | (refine AL.rpy rfl rfl rfl (rp_lssF rfl rfl rfl (by first | assumption | omega | (dsimp only; omega))) ?_) | (refine AL.rpy rfl rfl rfl (rp_lss rfl rfl rfl) ?_))
  refine AL.rp rfl rfl (rp_pick rfl rfl rfl) ?_
  refine AL.rp rfl rfl (rp_move rfl rfl) ?_
  (first | (refine AL.noV rfl rfl rfl rfl ?_) | (refine AL.noU rfl ⟨_, rfl, rfl⟩ rfl ?_) | (refine AL.rpy rfl rfl rfl (rp_move rfl rfl) ?_))
  (first | (refine AL.noV rfl rfl rfl rfl ?_) | (refine AL.noU rfl ⟨_, rfl, rfl⟩ rfl ?_) | (refine AL.rpy rfl rfl rfl (rp_gtrT rfl rfl rfl (by first | assumption | omega | (dsimp only; omega))) ?_) | (refine AL.rpy rfl rfl rfl (rp_gtrF rfl rfl rfl (by first | assumption | omega | (dsimp only; omega))) ?_) | (refine AL.rpy rfl rfl rfl (rp_gtr rfl rfl rfl) ?_))
  refine AL.rp rfl rfl (rp_pick rfl rfl rfl) ?_
  refine AL.nil ?_
  try simp only [thenS, S.put, S.newObj, setL, V.cs, List.length_cons, List.length_nil, List.take_succ_cons, List.take_zero, List.drop_succ_cons, List.drop_zero, List.drop_nil, List.nil_append, List.cons_append, List.append_nil, Nat.zero_add, Nat.reduceAdd, List.map_cons, List.map_nil, List.set_cons_zero, List.set_cons_succ]
  refine AW.condT rfl ?_
  refine AW.seq ?_
  refine AW.region ?_
  refine AL.rp rfl rfl (rp_build (vs := []) (zs := [.d (.p (.int .i64 0)), .d (.p (.int .i64 0))]) pl49 inf49 rfl rfl rfl rfl) ?_
  refine AL.st rfl (st_store_any inf49 rfl rfl rfl rfl rfl rfl rfl rfl (by first | decide | (simp; done) | (simp; omega)) rfl) ?_
  refine AL.rp rfl rfl (rp_assign rfl rfl) ?_
  refine AL.nil ?_
  try simp only [thenS, S.put, S.newObj, setL, V.cs, List.length_cons, List.length_nil, List.take_succ_cons, List.take_zero, List.drop_succ_cons, List.drop_zero, List.drop_nil, List.nil_append, List.cons_append, List.append_nil, Nat.zero_add, Nat.reduceAdd, List.map_cons, List.map_nil, List.set_cons_zero, List.set_cons_succ]
  refine AW.ret ?_
  exact ⟨[_, _], ⟨⟨4, 0, _, _, rfl, rfl, rfl, Try.underlying49, .inr ⟨rfl, _, _, _, _, inf49, rfl, rfl, rfl⟩⟩, rfl, trivial⟩, rfl, by simp [tupOf, V.pure, V.has, V.hasL]⟩

theorem am_TwinMay (a b : Int) : Fn Try.prog 54 [.agg [.i a, .i b]] (fun v => v = .b (decide (mayT a b))) := by
 unfold mayT
 refine Fn.intro (n := 21) ⟨Try.func54, rfl, rfl, rfl, rfl⟩ (by simp [V.pure, V.has, V.hasL]) (by simp) fun w0 out => ?_
 by_cases h1 : a = 1000000001
 ·by_cases h2 : b = 1000000001
  ·skip
   refine AW.seq ?_
   refine AW.region ?_
   refine AL.sm rfl (sm_box 1 rfl rfl rfl (by first | rfl | simp [S.clean, S.put, S.newObj, S.forget, V.has, V.hasL, junkIf, setL, V.cs, hasL_i, hasL_b, hasL_s, hasL_n, hasL_rep, hasL_flat, hasL_append, -List.map_set]) rfl) ?_
   refine AL.rp rfl rfl (rp_assign rfl rfl) ?_
   refine AL.nil ?_
   try simp only [thenS, S.put, S.newObj, setL, V.cs, List.length_cons, List.length_nil, List.take_succ_cons, List.take_zero, List.drop_succ_cons, List.drop_zero, List.drop_nil, List.nil_append, List.cons_append, List.append_nil, Nat.zero_add, Nat.reduceAdd, List.map_cons, List.map_nil, List.set_cons_zero, List.set_cons_succ, enum]
   refine AW.seq ?_
   refine AW.region ?_
   (first | (refine AL.rp rfl rfl (rp_field_ref Try.underlying49 rfl rfl rfl inf3 (by decide) rfl) ?_) | (refine AL.rp rfl rfl (rp_field_ad Try.underlying49 rfl rfl rfl inf3 (by decide) rfl) ?_))
   (first | (refine AL.rd rfl rfl (rd_load_ref Try.underlying3 rfl rfl rfl rfl rfl rfl) ?_) | (refine AL.rd rfl rfl (rd_load_ad Try.underlying3 rfl rfl rfl rfl) ?_) | (refine AL.rd rfl rfl (rd_load_map Try.underlying3 rfl rfl rfl rfl rfl rfl (by assumption)) ?_) | (refine AL.rd rfl rfl (rd_load_flat Try.underlying3 rfl rfl rfl rfl rfl rfl (fun _ => rfl) (by assumption) rfl) ?_))
   (first | (refine AL.rp rfl rfl (rp_eqlT rfl rfl rfl (by first | assumption | omega | (dsimp only; omega))) ?_) | (refine AL.rp rfl rfl (rp_eqlF rfl rfl rfl (by first | assumption | omega | (dsimp only; omega))) ?_) | (refine AL.rp rfl rfl (rp_eql rfl rfl rfl) ?_))
   refine AL.rp rfl rfl (rp_move rfl rfl) ?_
   (first | (refine AL.noV rfl rfl rfl rfl ?_) | (refine AL.noU rfl ⟨_, rfl, rfl⟩ rfl ?_) | (refine AL.rpy rfl rfl rfl (rp_field_ref Try.underlying49 rfl rfl rfl inf3 (by decide) rfl) ?_) | (refine AL.rpy rfl rfl rfl (rp_field_ad Try.underlying49 rfl rfl rfl inf3 (by decide) rfl) ?_))
   (first | (refine AL.noV rfl rfl rfl rfl ?_) | (refine AL.noU rfl ⟨_, rfl, rfl⟩ rfl ?_) | (refine AL.rdy rfl rfl rfl (rd_load_ref Try.underlying3 rfl rfl rfl rfl rfl rfl) ?_) | (refine AL.rdy rfl rfl rfl (rd_load_ad Try.underlying3 rfl rfl rfl rfl) ?_) | (refine AL.rdy rfl rfl rfl (rd_load_map Try.underlying3 rfl rfl rfl rfl rfl rfl (by assumption)) ?_) | (refine AL.rdy rfl rfl rfl (rd_load_flat Try.underlying3 rfl rfl rfl rfl rfl rfl (fun _ => rfl) (by assumption) rfl) ?_))
   (first | (refine AL.noV rfl rfl rfl rfl ?_) | (refine AL.noU rfl ⟨_, rfl, rfl⟩ rfl ?_) | (refine AL.rpy rfl rfl rfl (rp_eqlT rfl rfl rfl (by first | assumption | omega | (dsimp only; omega))) ?_) | (refine AL.rpy rfl rfl rfl (rp_eqlF rfl rfl rfl (by first | assumption | omega | (dsimp only; omega))) ?_) | (refine AL.rpy rfl rfl rfl (rp_eql rfl rfl rfl) ?_))
   refine AL.rp rfl rfl (rp_pick rfl rfl rfl) ?_
   refine AL.rp rfl rfl (rp_move rfl rfl) ?_
   (first | (refine AL.noV rfl rfl rfl rfl ?_) | (refine AL.noU rfl ⟨_, rfl, rfl⟩ rfl ?_) | (refine AL.rpy rfl rfl rfl (rp_field_ref Try.underlying49 rfl rfl rfl inf3 (by decide) rfl) ?_) | (refine AL.rpy rfl rfl rfl (rp_field_ad Try.underlying49 rfl rfl rfl inf3 (by decide) rfl) ?_))
   (first | (refine AL.noV rfl rfl rfl rfl ?_) | (refine AL.noU rfl ⟨_, rfl, rfl⟩ rfl ?_) | (refine AL.rdy rfl rfl rfl (rd_load_ref Try.underlying3 rfl rfl rfl rfl rfl rfl) ?_) | (refine AL.rdy rfl rfl rfl (rd_load_ad Try.underlying3 rfl rfl rfl rfl) ?_) | (refine AL.rdy rfl rfl rfl (rd_load_map Try.underlying3 rfl rfl rfl rfl rfl rfl (by assumption)) ?_) | (refine AL.rdy rfl rfl rfl (rd_load_flat Try.underlying3 rfl rfl rfl rfl rfl rfl (fun _ => rfl) (by assumption) rfl) ?_))
   (first | (refine AL.no rfl rfl rfl rfl ?_) | (refine AL.noU rfl ⟨_, rfl, rfl⟩ rfl ?_) | (refine AL.cally (post := ?pc21) rfl rfl (sm_call (args := [_, _, _]) ?hc21 ⟨Try.func55, rfl, rfl, rfl, rfl⟩ rfl rfl rfl rfl) ?_; (case hc21 => (first | (refine Fn.decT (am_In _ _ _) ?_; omega) | (refine Fn.decF (am_In _ _ _) ?_; omega) | exact am_In _ _ _)); rintro _ rfl -; try dsimp only))
   (first | (refine AL.noV rfl rfl rfl rfl ?_) | (refine AL.noU rfl ⟨_, rfl, rfl⟩ rfl ?_) | (refine AL.rpy rfl rfl rfl (rp_move rfl rfl) ?_))
   (first | (refine AL.noV rfl rfl rfl rfl ?_) | (refine AL.noU rfl ⟨_, rfl, rfl⟩ rfl ?_) | (refine AL.rpy rfl rfl rfl (rp_field_ref Try.underlying49 rfl rfl rfl inf3 (by decide) rfl) ?_) | (refine AL.rpy rfl rfl rfl (rp_field_ad Try.underlying49 rfl rfl rfl inf3 (by decide) rfl) ?_))
   (first | (refine AL.noV rfl rfl rfl rfl ?_) | (refine AL.noU rfl ⟨_, rfl, rfl⟩ rfl ?_) | (refine AL.rdy rfl rfl rfl (rd_load_ref Try.underlying3 rfl rfl rfl rfl rfl rfl) ?_) | (refine AL.rdy rfl rfl rfl (rd_load_ad Try.underlying3 rfl rfl rfl rfl) ?_) | (refine AL.rdy rfl rfl rfl (rd_load_map Try.underlying3 rfl rfl rfl rfl rfl rfl (by assumption)) ?_) | (refine AL.rdy rfl rfl rfl (rd_load_flat Try.underlying3 rfl rfl rfl rfl rfl rfl (fun _ => rfl) (by assumption) rfl) ?_))
   (first | (refine AL.no rfl rfl rfl rfl ?_) | (refine AL.noU rfl ⟨_, rfl, rfl⟩ rfl ?_) | (refine AL.cally (post := ?pc22) rfl rfl (sm_call (args := [_, _, _]) ?hc22 ⟨Try.func55, rfl, rfl, rfl, rfl⟩ rfl rfl rfl rfl) ?_; (case hc22 => (first | (refine Fn.decT (am_In _ _ _) ?_; omega) | (refine Fn.decF (am_In _ _ _) ?_; omega) | exact am_In _ _ _)); rintro _ rfl -; try dsimp only))
   (first | (refine AL.noV rfl rfl rfl rfl ?_) | (refine AL.noU rfl ⟨_, rfl, rfl⟩ rfl ?_) | (refine AL.rpy rfl rfl rfl (rp_pick rfl rfl rfl) ?_))
   refine AL.rp rfl rfl (rp_pick rfl rfl rfl) ?_
   refine AL.rp rfl rfl (rp_assign rfl rfl) ?_
   refine AL.nil ?_
   try simp only [thenS, S.put, S.newObj, setL, V.cs, List.length_cons, List.length_nil, List.take_succ_cons, List.take_zero, List.drop_succ_cons, List.drop_zero, List.drop_nil, List.nil_append, List.cons_append, List.append_nil, Nat.zero_add, Nat.reduceAdd, List.map_cons, List.map_nil, List.set_cons_zero, List.set_cons_succ]
   refine AW.ret ?_
   exact ⟨[_], ⟨rfl, trivial⟩, by simp [tupOf, h1, h2], by simp [tupOf, V.pure, V.has]⟩
  ·skip
   refine AW.seq ?_
   refine AW.region ?_
   refine AL.sm rfl (sm_box 1 rfl rfl rfl (by first | rfl | simp [S.clean, S.put, S.newObj, S.forget, V.has, V.hasL, junkIf, setL, V.cs, hasL_i, hasL_b, hasL_s, hasL_n, hasL_rep, hasL_flat, hasL_append, -List.map_set]) rfl) ?_
   refine AL.rp rfl rfl (rp_assign rfl rfl) ?_
   refine AL.nil ?_
   try simp only [thenS, S.put, S.newObj, setL, V.cs, List.length_cons, List.length_nil, List.take_succ_cons, List.take_zero, List.drop_succ_cons, List.drop_zero, List.drop_nil, List.nil_append, List.cons_append, List.append_nil, Nat.zero_add, Nat.reduceAdd, List.map_cons, List.map_nil, List.set_cons_zero, List.set_cons_succ, enum]
   refine AW.seq ?_
   refine AW.region ?_
   (first | (refine AL.rp rfl rfl (rp_field_ref Try.underlying49 rfl rfl rfl inf3 (by decide) rfl) ?_) | (refine AL.rp rfl rfl (rp_field_ad Try.underlying49 rfl rfl rfl inf3 (by decide) rfl) ?_))
   (first | (refine AL.rd rfl rfl (rd_load_ref Try.underlying3 rfl rfl rfl rfl rfl rfl) ?_) | (refine AL.rd rfl rfl (rd_load_ad Try.underlying3 rfl rfl rfl rfl) ?_) | (refine AL.rd rfl rfl (rd_load_map Try.underlying3 rfl rfl rfl rfl rfl rfl (by assumption)) ?_) | (refine AL.rd rfl rfl (rd_load_flat Try.underlying3 rfl rfl rfl rfl rfl rfl (fun _ => rfl) (by assumption) rfl) ?_))
   (first | (refine AL.rp rfl rfl (rp_eqlT rfl rfl rfl (by first | assumption | omega | (dsimp only; omega))) ?_) | (refine AL.rp rfl rfl (rp_eqlF rfl rfl rfl (by first | assumption | omega | (dsimp only; omega))) ?_) | (refine AL.rp rfl rfl (rp_eql rfl rfl rfl) ?_))
   refine AL.rp rfl rfl (rp_move rfl rfl) ?_
   (first | (refine AL.noV rfl rfl rfl rfl ?_) | (refine AL.noU rfl ⟨_, rfl, rfl⟩ rfl ?_) | (refine AL.rpy rfl rfl rfl (rp_field_ref Try.underlying49 rfl rfl rfl inf3 (by decide) rfl) ?_) | (refine AL.rpy rfl rfl rfl (rp_field_ad Try.underlying49 rfl rfl rfl inf3 (by decide) rfl) ?_))
   (first | (refine AL.noV rfl rfl rfl rfl ?_) | (refine AL.noU rfl ⟨_, rfl, rfl⟩ rfl ?_) | (refine AL.rdy rfl rfl rfl (rd_load_ref Try.underlying3 rfl rfl rfl rfl rfl rfl) ?_) | (refine AL.rdy rfl rfl rfl (rd_load_ad Try.underlying3 rfl rfl rfl rfl) ?_) | (refine AL.rdy rfl rfl rfl (rd_load_map Try.underlying3 rfl rfl rfl rfl rfl rfl (by assumption)) ?_) | (refine AL.rdy rfl rfl rfl (rd_load_flat Try.underlying3 rfl rfl rfl rfl rfl rfl (fun _ => rfl) (by assumption) rfl) ?_))
   (first | (refine AL.noV rfl rfl rfl rfl ?_) | (refine AL.noU rfl ⟨_, rfl, rfl⟩ rfl ?_) | (refine AL.rpy rfl rfl rfl (rp_eqlT rfl rfl rfl (by first | assumption | omega | (dsimp only; omega))) ?_) | (refine AL.rpy rfl rfl rfl (rp_eqlF rfl rfl rfl (by first | assumption | omega | (dsimp only; omega))) ?_) | (refine AL.rpy rfl rfl rfl (rp_eql rfl rfl rfl) ?_))
   refine AL.rp rfl rfl (rp_pick rfl rfl rfl) ?_
   refine AL.rp rfl rfl (rp_move rfl rfl) ?_
   (first | (refine AL.noV rfl rfl rfl rfl ?_) | (refine AL.noU rfl ⟨_, rfl, rfl⟩ rfl ?_) | (refine AL.rpy rfl rfl rfl (rp_field_ref Try.underlying49 rfl rfl rfl inf3 (by decide) rfl) ?_) | (refine AL.rpy rfl rfl rfl (rp_field_ad Try.underlying49 rfl rfl rfl inf3 (by decide) rfl) ?_))
   (first | (refine AL.noV rfl rfl rfl rfl ?_) | (refine AL.noU rfl ⟨_, rfl, rfl⟩ rfl ?_) | (refine AL.rdy rfl rfl rfl (rd_load_ref Try.underlying3 rfl rfl rfl rfl rfl rfl) ?_) | (refine AL.rdy rfl rfl rfl (rd_load_ad Try.underlying3 rfl rfl rfl rfl) ?_) | (refine AL.rdy rfl rfl rfl (rd_load_map Try.underlying3 rfl rfl rfl rfl rfl rfl (by assumption)) ?_) | (refine AL.rdy rfl rfl rfl (rd_load_flat Try.underlying3 rfl rfl rfl rfl rfl rfl (fun _ => rfl) (by assumption) rfl) ?_))
   (first | (refine AL.no rfl rfl rfl rfl ?_) | (refine AL.noU rfl ⟨_, rfl, rfl⟩ rfl ?_) | (refine AL.cally (post := ?pc23) rfl rfl (sm_call (args := [_, _, _]) ?hc23 ⟨Try.func55, rfl, rfl, rfl, rfl⟩ rfl rfl rfl rfl) ?_; (case hc23 => (first | (refine Fn.decT (am_In _ _ _) ?_; omega) | (refine Fn.decF (am_In _ _ _) ?_; omega) | exact am_In _ _ _)); rintro _ rfl -; try dsimp only))
   (first | (refine AL.noV rfl rfl rfl rfl ?_) | (refine AL.noU rfl ⟨_, rfl, rfl⟩ rfl ?_) | (refine AL.rpy rfl rfl rfl (rp_move rfl rfl) ?_))
   (first | (refine AL.noV rfl rfl rfl rfl ?_) | (refine AL.noU rfl ⟨_, rfl, rfl⟩ rfl ?_) | (refine AL.rpy rfl rfl rfl (rp_field_ref Try.underlying49 rfl rfl rfl inf3 (by decide) rfl) ?_) | (refine AL.rpy rfl rfl rfl (rp_field_ad Try.underlying49 rfl rfl rfl inf3 (by decide) rfl) ?_))
   (first | (refine AL.noV rfl rfl rfl rfl ?_) | (refine AL.noU rfl ⟨_, rfl, rfl⟩ rfl ?_) | (refine AL.rdy rfl rfl rfl (rd_load_ref Try.underlying3 rfl rfl rfl rfl rfl rfl) ?_) | (refine AL.rdy rfl rfl rfl (rd_load_ad Try.underlying3 rfl rfl rfl rfl) ?_) | (refine AL.rdy rfl rfl rfl (rd_load_map Try.underlying3 rfl rfl rfl rfl rfl rfl (by assumption)) ?_) | (refine AL.rdy rfl rfl rfl (rd_load_flat Try.underlying3 rfl rfl rfl rfl rfl rfl (fun _ => rfl) (by assumption) rfl) ?_))
   (first | (refine AL.no rfl rfl rfl rfl ?_) | (refine AL.noU rfl ⟨_, rfl, rfl⟩ rfl ?_) | (refine AL.cally (post := ?pc24) rfl rfl (sm_call (args := [_, _, _]) ?hc24 ⟨Try.func55, rfl, rfl, rfl, rfl⟩ rfl rfl rfl rfl) ?_; (case hc24 => (first | (refine Fn.decT (am_In _ _ _) ?_; omega) | (refine Fn.decF (am_In _ _ _) ?_; omega) | exact am_In _ _ _)); rintro _ rfl -; try dsimp only))
   (first | (refine AL.noV rfl rfl rfl rfl ?_) | (refine AL.noU rfl ⟨_, rfl, rfl⟩ rfl ?_) | (refine AL.rpy rfl rfl rfl (rp_pick rfl rfl rfl) ?_))
   refine AL.rp rfl rfl (rp_pick rfl rfl rfl) ?_
   refine AL.rp rfl rfl (rp_assign rfl rfl) ?_
   refine AL.nil ?_
   try simp only [thenS, S.put, S.newObj, setL, V.cs, List.length_cons, List.length_nil, List.take_succ_cons, List.take_zero, List.drop_succ_cons, List.drop_zero, List.drop_nil, List.nil_append, List.cons_append, List.append_nil, Nat.zero_add, Nat.reduceAdd, List.map_cons, List.map_nil, List.set_cons_zero, List.set_cons_succ]
   refine AW.ret ?_
   exact ⟨[_], ⟨rfl, trivial⟩, by simp [tupOf, h1, h2], by simp [tupOf, V.pure, V.has]⟩
 ·by_cases h3 : 0 ≤ a ∧ a ≤ 1000000000
  ·by_cases h4 : 0 ≤ b ∧ b ≤ 1000000000
   ·skip
    refine AW.seq ?_
    refine AW.region ?_
    refine AL.sm rfl (sm_box 1 rfl rfl rfl (by first | rfl | simp [S.clean, S.put, S.newObj, S.forget, V.has, V.hasL, junkIf, setL, V.cs, hasL_i, hasL_b, hasL_s, hasL_n, hasL_rep, hasL_flat, hasL_append, -List.map_set]) rfl) ?_
    refine AL.rp rfl rfl (rp_assign rfl rfl) ?_
    refine AL.nil ?_
    try simp only [thenS, S.put, S.newObj, setL, V.cs, List.length_cons, List.length_nil, List.take_succ_cons, List.take_zero, List.drop_succ_cons, List.drop_zero, List.drop_nil, List.nil_append, List.cons_append, List.append_nil, Nat.zero_add, Nat.reduceAdd, List.map_cons, List.map_nil, List.set_cons_zero, List.set_cons_succ, enum]
    refine AW.seq ?_
    refine AW.region ?_
    (first | (refine AL.rp rfl rfl (rp_field_ref Try.underlying49 rfl rfl rfl inf3 (by decide) rfl) ?_) | (refine AL.rp rfl rfl (rp_field_ad Try.underlying49 rfl rfl rfl inf3 (by decide) rfl) ?_))
    (first | (refine AL.rd rfl rfl (rd_load_ref Try.underlying3 rfl rfl rfl rfl rfl rfl) ?_) | (refine AL.rd rfl rfl (rd_load_ad Try.underlying3 rfl rfl rfl rfl) ?_) | (refine AL.rd rfl rfl (rd_load_map Try.underlying3 rfl rfl rfl rfl rfl rfl (by assumption)) ?_) | (refine AL.rd rfl rfl (rd_load_flat Try.underlying3 rfl rfl rfl rfl rfl rfl (fun _ => rfl) (by assumption) rfl) ?_))
    (first | (refine AL.rp rfl rfl (rp_eqlT rfl rfl rfl (by first | assumption | omega | (dsimp only; omega))) ?_) | (refine AL.rp rfl rfl (rp_eqlF rfl rfl rfl (by first | assumption | omega | (dsimp only; omega))) ?_) | (refine AL.rp rfl rfl (rp_eql rfl rfl rfl) ?_))
    refine AL.rp rfl rfl (rp_move rfl rfl) ?_
    (first | (refine AL.noV rfl rfl rfl rfl ?_) | (refine AL.noU rfl ⟨_, rfl, rfl⟩ rfl ?_) | (refine AL.rpy rfl rfl rfl (rp_field_ref Try.underlying49 rfl rfl rfl inf3 (by decide) rfl) ?_) | (refine AL.rpy rfl rfl rfl (rp_field_ad Try.underlying49 rfl rfl rfl inf3 (by decide) rfl) ?_))
    (first | (refine AL.noV rfl rfl rfl rfl ?_) | (refine AL.noU rfl ⟨_, rfl, rfl⟩ rfl ?_) | (refine AL.rdy rfl rfl rfl (rd_load_ref Try.underlying3 rfl rfl rfl rfl rfl rfl) ?_) | (refine AL.rdy rfl rfl rfl (rd_load_ad Try.underlying3 rfl rfl rfl rfl) ?_) | (refine AL.rdy rfl rfl rfl (rd_load_map Try.underlying3 rfl rfl rfl rfl rfl rfl (by assumption)) ?_) | (refine AL.rdy rfl rfl rfl (rd_load_flat Try.underlying3 rfl rfl rfl rfl rfl rfl (fun _ => rfl) (by assumption) rfl) ?_))
    (first | (refine AL.noV rfl rfl rfl rfl ?_) | (refine AL.noU rfl ⟨_, rfl, rfl⟩ rfl ?_) | (refine AL.rpy rfl rfl rfl (rp_eqlT rfl rfl rfl (by first | assumption | omega | (dsimp only; omega))) ?_) | (refine AL.rpy rfl rfl rfl (rp_eqlF rfl rfl rfl (by first | assumption | omega | (dsimp only; omega))) ?_) | (refine AL.rpy rfl rfl rfl (rp_eql rfl rfl rfl) ?_))
    refine AL.rp rfl rfl (rp_pick rfl rfl rfl) ?_
    refine AL.rp rfl rfl (rp_move rfl rfl) ?_
    (first | (refine AL.noV rfl rfl rfl rfl ?_) | (refine AL.noU rfl ⟨_, rfl, rfl⟩ rfl ?_) | (refine AL.rpy rfl rfl rfl (rp_field_ref Try.underlying49 rfl rfl rfl inf3 (by decide) rfl) ?_) | (refine AL.rpy rfl rfl rfl (rp_field_ad Try.underlying49 rfl rfl rfl inf3 (by decide) rfl) ?_))
    (first | (refine AL.noV rfl rfl rfl rfl ?_) | (refine AL.noU rfl ⟨_, rfl, rfl⟩ rfl ?_) | (refine AL.rdy rfl rfl rfl (rd_load_ref Try.underlying3 rfl rfl rfl rfl rfl rfl) ?_) | (refine AL.rdy rfl rfl rfl (rd_load_ad Try.underlying3 rfl rfl rfl rfl) ?_) | (refine AL.rdy rfl rfl rfl (rd_load_map Try.underlying3 rfl rfl rfl rfl rfl rfl (by assumption)) ?_) | (refine AL.rdy rfl rfl rfl (rd_load_flat Try.underlying3 rfl rfl rfl rfl rfl rfl (fun _ => rfl) (by assumption) rfl) ?_))
    (first | (refine AL.no rfl rfl rfl rfl ?_) | (refine AL.noU rfl ⟨_, rfl, rfl⟩ rfl ?_) | (refine AL.cally (post := ?pc25) rfl rfl (sm_call (args := [_, _, _]) ?hc25 ⟨Try.func55, rfl, rfl, rfl, rfl⟩ rfl rfl rfl rfl) ?_; (case hc25 => (first | (refine Fn.decT (am_In _ _ _) ?_; omega) | (refine Fn.decF (am_In _ _ _) ?_; omega) | exact am_In _ _ _)); rintro _ rfl -; try dsimp only))
    (first | (refine AL.noV rfl rfl rfl rfl ?_) | (refine AL.noU rfl ⟨_, rfl, rfl⟩ rfl ?_) | (refine AL.rpy rfl rfl rfl (rp_move rfl rfl) ?_))
    (first | (refine AL.noV rfl rfl rfl rfl ?_) | (refine AL.noU rfl ⟨_, rfl, rfl⟩ rfl ?_) | (refine AL.rpy rfl rfl rfl (rp_field_ref Try.underlying49 rfl rfl rfl inf3 (by decide) rfl) ?_) | (refine AL.rpy rfl rfl rfl (rp_field_ad Try.underlying49 rfl rfl rfl inf3 (by decide) rfl) ?_))
    (first | (refine AL.noV rfl rfl rfl rfl ?_) | (refine AL.noU rfl ⟨_, rfl, rfl⟩ rfl ?_) | (refine AL.rdy rfl rfl rfl (rd_load_ref Try.underlying3 rfl rfl rfl rfl rfl rfl) ?_) | (refine AL.rdy rfl rfl rfl (rd_load_ad Try.underlying3 rfl rfl rfl rfl) ?_) | (refine AL.rdy rfl rfl rfl (rd_load_map Try.underlying3 rfl rfl rfl rfl rfl rfl (by assumption)) ?_) | (refine AL.rdy rfl rfl rfl (rd_load_flat Try.underlying3 rfl rfl rfl rfl rfl rfl (fun _ => rfl) (by assumption) rfl) ?_))
    (first | (refine AL.no rfl rfl rfl rfl ?_) | (refine AL.noU rfl ⟨_, rfl, rfl⟩ rfl ?_) | (refine AL.cally (post := ?pc26) rfl rfl (sm_call (args := [_, _, _]) ?hc26 ⟨Try.func55, rfl, rfl, rfl, rfl⟩ rfl rfl rfl rfl) ?_; (case hc26 => (first | (refine Fn.decT (am_In _ _ _) ?_; omega) | (refine Fn.decF (am_In _ _ _) ?_; omega) | exact am_In _ _ _)); rintro _ rfl -; try dsimp only))
    (first | (refine AL.noV rfl rfl rfl rfl ?_) | (refine AL.noU rfl ⟨_, rfl, rfl⟩ rfl ?_) | (refine AL.rpy rfl rfl rfl (rp_pick rfl rfl rfl) ?_))
    refine AL.rp rfl rfl (rp_pick rfl rfl rfl) ?_
    refine AL.rp rfl rfl (rp_assign rfl rfl) ?_
    refine AL.nil ?_
    try simp only [thenS, S.put, S.newObj, setL, V.cs, List.length_cons, List.length_nil, List.take_succ_cons, List.take_zero, List.drop_succ_cons, List.drop_zero, List.drop_nil, List.nil_append, List.cons_append, List.append_nil, Nat.zero_add, Nat.reduceAdd, List.map_cons, List.map_nil, List.set_cons_zero, List.set_cons_succ]
    refine AW.ret ?_
    exact ⟨[_], ⟨rfl, trivial⟩, by simp [tupOf, h1, h3, h4], by simp [tupOf, V.pure, V.has]⟩
   ·skip
    refine AW.seq ?_
    refine AW.region ?_
    refine AL.sm rfl (sm_box 1 rfl rfl rfl (by first | rfl | simp [S.clean, S.put, S.newObj, S.forget, V.has, V.hasL, junkIf, setL, V.cs, hasL_i, hasL_b, hasL_s, hasL_n, hasL_rep, hasL_flat, hasL_append, -List.map_set]) rfl) ?_
    refine AL.rp rfl rfl (rp_assign rfl rfl) ?_
    refine AL.nil ?_
    try simp only [thenS, S.put, S.newObj, setL, V.cs, List.length_cons, List.length_nil, List.take_succ_cons, List.take_zero, List.drop_succ_cons, List.drop_zero, List.drop_nil, List.nil_append, List.cons_append, List.append_nil, Nat.zero_add, Nat.reduceAdd, List.map_cons, List.map_nil, List.set_cons_zero, List.set_cons_succ, enum]
    refine AW.seq ?_
    refine AW.region ?_
    (first | (refine AL.rp rfl rfl (rp_field_ref Try.underlying49 rfl rfl rfl inf3 (by decide) rfl) ?_) | (refine AL.rp rfl rfl (rp_field_ad Try.underlying49 rfl rfl rfl inf3 (by decide) rfl) ?_))
    (first | (refine AL.rd rfl rfl (rd_load_ref Try.underlying3 rfl rfl rfl rfl rfl rfl) ?_) | (refine AL.rd rfl rfl (rd_load_ad Try.underlying3 rfl rfl rfl rfl) ?_) | (refine AL.rd rfl rfl (rd_load_map Try.underlying3 rfl rfl rfl rfl rfl rfl (by assumption)) ?_) | (refine AL.rd rfl rfl (rd_load_flat Try.underlying3 rfl rfl rfl rfl rfl rfl (fun _ => rfl) (by assumption) rfl) ?_))
    (first | (refine AL.rp rfl rfl (rp_eqlT rfl rfl rfl (by first | assumption | omega | (dsimp only; omega))) ?_) | (refine AL.rp rfl rfl (rp_eqlF rfl rfl rfl (by first | assumption | omega | (dsimp only; omega))) ?_) | (refine AL.rp rfl rfl (rp_eql rfl rfl rfl) ?_))
    refine AL.rp rfl rfl (rp_move rfl rfl) ?_
    (first | (refine AL.noV rfl rfl rfl rfl ?_) | (refine AL.noU rfl ⟨_, rfl, rfl⟩ rfl ?_) | (refine AL.rpy rfl rfl rfl (rp_field_ref Try.underlying49 rfl rfl rfl inf3 (by decide) rfl) ?_) | (refine AL.rpy rfl rfl rfl (rp_field_ad Try.underlying49 rfl rfl rfl inf3 (by decide) rfl) ?_))
    (first | (refine AL.noV rfl rfl rfl rfl ?_) | (refine AL.noU rfl ⟨_, rfl, rfl⟩ rfl ?_) | (refine AL.rdy rfl rfl rfl (rd_load_ref Try.underlying3 rfl rfl rfl rfl rfl rfl) ?_) | (refine AL.rdy rfl rfl rfl (rd_load_ad Try.underlying3 rfl rfl rfl rfl) ?_) | (refine AL.rdy rfl rfl rfl (rd_load_map Try.underlying3 rfl rfl rfl rfl rfl rfl (by assumption)) ?_) | (refine AL.rdy rfl rfl rfl (rd_load_flat Try.underlying3 rfl rfl rfl rfl rfl rfl (fun _ => rfl) (by assumption) rfl) ?_))
    (first | (refine AL.noV rfl rfl rfl rfl ?_) | (refine AL.noU rfl ⟨_, rfl, rfl⟩ rfl ?_) | (refine AL.rpy rfl rfl rfl (rp_eqlT rfl rfl rfl (by first | assumption | omega | (dsimp only; omega))) ?_) | (refine AL.rpy rfl rfl rfl (rp_eqlF rfl rfl rfl (by first | assumption | omega | (dsimp only; omega))) ?_) | (refine AL.rpy rfl rfl rfl (rp_eql rfl rfl rfl) ?_))
    refine AL.rp rfl rfl (rp_pick rfl rfl rfl) ?_
    refine AL.rp rfl rfl (rp_move rfl rfl) ?_
    (first | (refine AL.noV rfl rfl rfl rfl ?_) | (refine AL.noU rfl ⟨_, rfl, rfl⟩ rfl ?_) | (refine AL.rpy rfl rfl rfl (rp_field_ref Try.underlying49 rfl rfl rfl inf3 (by decide) rfl) ?_) | (refine AL.rpy rfl rfl rfl (rp_field_ad Try.underlying49 rfl rfl rfl inf3 (by decide) rfl) ?_))
    (first | (refine AL.noV rfl rfl rfl rfl ?_) | (refine AL.noU rfl ⟨_, rfl, rfl⟩ rfl ?_) | (refine AL.rdy rfl rfl rfl (rd_load_ref Try.underlying3 rfl rfl rfl rfl rfl rfl) ?_) | (refine AL.rdy rfl rfl rfl (rd_load_ad Try.underlying3 rfl rfl rfl rfl) ?_) | (refine AL.rdy rfl rfl rfl (rd_load_map Try.underlying3 rfl rfl rfl rfl rfl rfl (by assumption)) ?_) | (refine AL.rdy rfl rfl rfl (rd_load_flat Try.underlying3 rfl rfl rfl rfl rfl rfl (fun _ => rfl) (by assumption) rfl) ?_))
    (first | (refine AL.no rfl rfl rfl rfl ?_) | (refine AL.noU rfl ⟨_, rfl, rfl⟩ rfl ?_) | (refine AL.cally (post := ?pc27) rfl rfl (sm_call (args := [_, _, _]) ?hc27 ⟨Try.func55, rfl, rfl, rfl, rfl⟩ rfl rfl rfl rfl) ?_; (case hc27 => (first | (refine Fn.decT (am_In _ _ _) ?_; omega) | (refine Fn.decF (am_In _ _ _) ?_; omega) | exact am_In _ _ _)); rintro _ rfl -; try dsimp only))
    (first | (refine AL.noV rfl rfl rfl rfl ?_) | (refine AL.noU rfl ⟨_, rfl, rfl⟩ rfl ?_) | (refine AL.rpy rfl rfl rfl (rp_move rfl rfl) ?_))
    (first | (refine AL.noV rfl rfl rfl rfl ?_) | (refine AL.noU rfl ⟨_, rfl, rfl⟩ rfl ?_) | (refine AL.rpy rfl rfl rfl (rp_field_ref Try.underlying49 rfl rfl rfl inf3 (by decide) rfl) ?_) | (refine AL.rpy rfl rfl rfl (rp_field_ad Try.underlying49 rfl rfl rfl inf3 (by decide) rfl) ?_))
    (first | (refine AL.noV rfl rfl rfl rfl ?_) | (refine AL.noU rfl ⟨_, rfl, rfl⟩ rfl ?_) | (refine AL.rdy rfl rfl rfl (rd_load_ref Try.underlying3 rfl rfl rfl rfl rfl rfl) ?_) | (refine AL.rdy rfl rfl rfl (rd_load_ad Try.underlying3 rfl rfl rfl rfl) ?_) | (refine AL.rdy rfl rfl rfl (rd_load_map Try.underlying3 rfl rfl rfl rfl rfl rfl (by assumption)) ?_) | (refine AL.rdy rfl rfl rfl (rd_load_flat Try.underlying3 rfl rfl rfl rfl rfl rfl (fun _ => rfl) (by assumption) rfl) ?_))
    (first | (refine AL.no rfl rfl rfl rfl ?_) | (refine AL.noU rfl ⟨_, rfl, rfl⟩ rfl ?_) | (refine AL.cally (post := ?pc28) rfl rfl (sm_call (args := [_, _, _]) ?hc28 ⟨Try.func55, rfl, rfl, rfl, rfl⟩ rfl rfl rfl rfl) ?_; (case hc28 => (first | (refine Fn.decT (am_In _ _ _) ?_; omega) | (refine Fn.decF (am_In _ _ _) ?_; omega) | exact am_In _ _ _)); rintro _ rfl -; try dsimp only))
    (first | (refine AL.noV rfl rfl rfl rfl ?_) | (refine AL.noU rfl ⟨_, rfl, rfl⟩ rfl ?_) | (refine AL.rpy rfl rfl rfl (rp_pick rfl rfl rfl) ?_))
    refine AL.rp rfl rfl (rp_pick rfl rfl rfl) ?_
    refine AL.rp rfl rfl (rp_assign rfl rfl) ?_
    refine AL.nil ?_
    try simp only [thenS, S.put, S.newObj, setL, V.cs, List.length_cons, List.length_nil, List.take_succ_cons, List.take_zero, List.drop_succ_cons, List.drop_zero, List.drop_nil, List.nil_append, List.cons_append, List.append_nil, Nat.zero_add, Nat.reduceAdd, List.map_cons, List.map_nil, List.set_cons_zero, List.set_cons_succ]
    refine AW.ret ?_
    exact ⟨[_], ⟨rfl, trivial⟩, by simp [tupOf, h1, h3, h4], by simp [tupOf, V.pure, V.has]⟩
  ·skip
   refine AW.seq ?_
   refine AW.region ?_
   refine AL.sm rfl (sm_box 1 rfl rfl rfl (by first | rfl | simp [S.clean, S.put, S.newObj, S.forget, V.has, V.hasL, junkIf, setL, V.cs, hasL_i, hasL_b, hasL_s, hasL_n, hasL_rep, hasL_flat, hasL_append, -List.map_set]) rfl) ?_
   refine AL.rp rfl rfl (rp_assign rfl rfl) ?_
   refine AL.nil ?_
   try simp only [thenS, S.put, S.newObj, setL, V.cs, List.length_cons, List.length_nil, List.take_succ_cons, List.take_zero, List.drop_succ_cons, List.drop_zero, List.drop_nil, List.nil_append, List.cons_append, List.append_nil, Nat.zero_add, Nat.reduceAdd, List.map_cons, List.map_nil, List.set_cons_zero, List.set_cons_succ, enum]
   refine AW.seq ?_
   refine AW.region ?_
   (first | (refine AL.rp rfl rfl (rp_field_ref Try.underlying49 rfl rfl rfl inf3 (by decide) rfl) ?_) | (refine AL.rp rfl rfl (rp_field_ad Try.underlying49 rfl rfl rfl inf3 (by decide) rfl) ?_))
   (first | (refine AL.rd rfl rfl (rd_load_ref Try.underlying3 rfl rfl rfl rfl rfl rfl) ?_) | (refine AL.rd rfl rfl (rd_load_ad Try.underlying3 rfl rfl rfl rfl) ?_) | (refine AL.rd rfl rfl (rd_load_map Try.underlying3 rfl rfl rfl rfl rfl rfl (by assumption)) ?_) | (refine AL.rd rfl rfl (rd_load_flat Try.underlying3 rfl rfl rfl rfl rfl rfl (fun _ => rfl) (by assumption) rfl) ?_))
   (first | (refine AL.rp rfl rfl (rp_eqlT rfl rfl rfl (by first | assumption | omega | (dsimp only; omega))) ?_) | (refine AL.rp rfl rfl (rp_eqlF rfl rfl rfl (by first | assumption | omega | (dsimp only; omega))) ?_) | (refine AL.rp rfl rfl (rp_eql rfl rfl rfl) ?_))
   refine AL.rp rfl rfl (rp_move rfl rfl) ?_
   (first | (refine AL.noV rfl rfl rfl rfl ?_) | (refine AL.noU rfl ⟨_, rfl, rfl⟩ rfl ?_) | (refine AL.rpy rfl rfl rfl (rp_field_ref Try.underlying49 rfl rfl rfl inf3 (by decide) rfl) ?_) | (refine AL.rpy rfl rfl rfl (rp_field_ad Try.underlying49 rfl rfl rfl inf3 (by decide) rfl) ?_))
   (first | (refine AL.noV rfl rfl rfl rfl ?_) | (refine AL.noU rfl ⟨_, rfl, rfl⟩ rfl ?_) | (refine AL.rdy rfl rfl rfl (rd_load_ref Try.underlying3 rfl rfl rfl rfl rfl rfl) ?_) | (refine AL.rdy rfl rfl rfl (rd_load_ad Try.underlying3 rfl rfl rfl rfl) ?_) | (refine AL.rdy rfl rfl rfl (rd_load_map Try.underlying3 rfl rfl rfl rfl rfl rfl (by assumption)) ?_) | (refine AL.rdy rfl rfl rfl (rd_load_flat Try.underlying3 rfl rfl rfl rfl rfl rfl (fun _ => rfl) (by assumption) rfl) ?_))
   (first | (refine AL.noV rfl rfl rfl rfl ?_) | (refine AL.noU rfl ⟨_, rfl, rfl⟩ rfl ?_) | (refine AL.rpy rfl rfl rfl (rp_eqlT rfl rfl rfl (by first | assumption | omega | (dsimp only; omega))) ?_) | (refine AL.rpy rfl rfl rfl (rp_eqlF rfl rfl rfl (by first | assumption | omega | (dsimp only; omega))) ?_) | (refine AL.rpy rfl rfl rfl (rp_eql rfl rfl rfl) ?_))
   refine AL.rp rfl rfl (rp_pick rfl rfl rfl) ?_
   refine AL.rp rfl rfl (rp_move rfl rfl) ?_
   (first | (refine AL.noV rfl rfl rfl rfl ?_) | (refine AL.noU rfl ⟨_, rfl, rfl⟩ rfl ?_) | (refine AL.rpy rfl rfl rfl (rp_field_ref Try.underlying49 rfl rfl rfl inf3 (by decide) rfl) ?_) | (refine AL.rpy rfl rfl rfl (rp_field_ad Try.underlying49 rfl rfl rfl inf3 (by decide) rfl) ?_))
   (first | (refine AL.noV rfl rfl rfl rfl ?_) | (refine AL.noU rfl ⟨_, rfl, rfl⟩ rfl ?_) | (refine AL.rdy rfl rfl rfl (rd_load_ref Try.underlying3 rfl rfl rfl rfl rfl rfl) ?_) | (refine AL.rdy rfl rfl rfl (rd_load_ad Try.underlying3 rfl rfl rfl rfl) ?_) | (refine AL.rdy rfl rfl rfl (rd_load_map Try.underlying3 rfl rfl rfl rfl rfl rfl (by assumption)) ?_) | (refine AL.rdy rfl rfl rfl (rd_load_flat Try.underlying3 rfl rfl rfl rfl rfl rfl (fun _ => rfl) (by assumption) rfl) ?_))
   (first | (refine AL.no rfl rfl rfl rfl ?_) | (refine AL.noU rfl ⟨_, rfl, rfl⟩ rfl ?_) | (refine AL.cally (post := ?pc29) rfl rfl (sm_call (args := [_, _, _]) ?hc29 ⟨Try.func55, rfl, rfl, rfl, rfl⟩ rfl rfl rfl rfl) ?_; (case hc29 => (first | (refine Fn.decT (am_In _ _ _) ?_; omega) | (refine Fn.decF (am_In _ _ _) ?_; omega) | exact am_In _ _ _)); rintro _ rfl -; try dsimp only))
   (first | (refine AL.noV rfl rfl rfl rfl ?_) | (refine AL.noU rfl ⟨_, rfl, rfl⟩ rfl ?_) | (refine AL.rpy rfl rfl rfl (rp_move rfl rfl) ?_))
   (first | (refine AL.noV rfl rfl rfl rfl ?_) | (refine AL.noU rfl ⟨_, rfl, rfl⟩ rfl ?_) | (refine AL.rpy rfl rfl rfl (rp_field_ref Try.underlying49 rfl rfl rfl inf3 (by decide) rfl) ?_) | (refine AL.rpy rfl rfl rfl (rp_field_ad Try.underlying49 rfl rfl rfl inf3 (by decide) rfl) ?_))
   (first | (refine AL.noV rfl rfl rfl rfl ?_) | (refine AL.noU rfl ⟨_, rfl, rfl⟩ rfl ?_) | (refine AL.rdy rfl rfl rfl (rd_load_ref Try.underlying3 rfl rfl rfl rfl rfl rfl) ?_) | (refine AL.rdy rfl rfl rfl (rd_load_ad Try.underlying3 rfl rfl rfl rfl) ?_) | (refine AL.rdy rfl rfl rfl (rd_load_map Try.underlying3 rfl rfl rfl rfl rfl rfl (by assumption)) ?_) | (refine AL.rdy rfl rfl rfl (rd_load_flat Try.underlying3 rfl rfl rfl rfl rfl rfl (fun _ => rfl) (by assumption) rfl) ?_))
   (first | (refine AL.no rfl rfl rfl rfl ?_) | (refine AL.noU rfl ⟨_, rfl, rfl⟩ rfl ?_) | (refine AL.cally (post := ?pc30) rfl rfl (sm_call (args := [_, _, _]) ?hc30 ⟨Try.func55, rfl, rfl, rfl, rfl⟩ rfl rfl rfl rfl) ?_; (case hc30 => (first | (refine Fn.decT (am_In _ _ _) ?_; omega) | (refine Fn.decF (am_In _ _ _) ?_; omega) | exact am_In _ _ _)); rintro _ rfl -; try dsimp only))
   (first | (refine AL.noV rfl rfl rfl rfl ?_) | (refine AL.noU rfl ⟨_, rfl, rfl⟩ rfl ?_) | (refine AL.rpy rfl rfl rfl (rp_pick rfl rfl rfl) ?_))
   refine AL.rp rfl rfl (rp_pick rfl rfl rfl) ?_
   refine AL.rp rfl rfl (rp_assign rfl rfl) ?_
   refine AL.nil ?_
   try simp only [thenS, S.put, S.newObj, setL, V.cs, List.length_cons, List.length_nil, List.take_succ_cons, List.take_zero, List.drop_succ_cons, List.drop_zero, List.drop_nil, List.nil_append, List.cons_append, List.append_nil, Nat.zero_add, Nat.reduceAdd, List.map_cons, List.map_nil, List.set_cons_zero, List.set_cons_succ]
   refine AW.ret ?_
   exact ⟨[_], ⟨rfl, trivial⟩, by simp [tupOf, h1, h3], by simp [tupOf, V.pure, V.has]⟩
theorem am_rtimes_z (w n : Int) (h : w = 0 ∨ n = 0) : Fn Try.prog 56 [.i w, .i n] (fun v => v = .tup [.i 0, .b true]) := by
 rcases (show w = 0 ∨ (¬ w = 0 ∧ n = 0) by omega) with h | h
 ·refine Fn.intro (n := 21) ⟨Try.func56, rfl, rfl, rfl, rfl⟩ (by simp [V.pure, V.has, V.hasL]) (by simp) fun w0 out => ?_
  refine AW.seq ?_
  refine AW.region ?_
  refine AL.rp rfl rfl (rp_assign rfl rfl) ?_
  refine AL.rp rfl rfl (rp_assign rfl rfl) ?_
  refine AL.nil ?_
  try simp only [thenS, S.put, enum, List.nil_append, List.cons_append, List.append_nil, Nat.zero_add, Nat.reduceAdd]
  refine AW.seq ?_
  refine AW.seq ?_
  refine AW.region ?_
  refine AL.rp rfl rfl (rp_move rfl rfl) ?_
  (first | (refine AL.rp rfl rfl (rp_eqlT rfl rfl rfl (by first | assumption | omega | (dsimp only; omega))) ?_) | (refine AL.rp rfl rfl (rp_eqlF rfl rfl rfl (by first | assumption | omega | (dsimp only; omega))) ?_) | (refine AL.rp rfl rfl (rp_eql rfl rfl rfl) ?_))
  refine AL.rp rfl rfl (rp_move rfl rfl) ?_
  (first | (refine AL.noV rfl rfl rfl rfl ?_) | (refine AL.noU rfl ⟨_, rfl, rfl⟩ rfl ?_) | (refine AL.rpy rfl rfl rfl (rp_move rfl rfl) ?_))
  (first | (refine AL.noV rfl rfl rfl rfl ?_) | (refine AL.noU rfl ⟨_, rfl, rfl⟩ rfl ?_) | (refine AL.rpy rfl rfl rfl (rp_eqlT rfl rfl rfl (by first | assumption | omega | (dsimp only; omega))) ?_) | (refine AL.rpy rfl rfl rfl (rp_eqlF rfl rfl rfl (by first | assumption | omega | (dsimp only; omega))) ?_) | (refine AL.rpy rfl rfl rfl (rp_eql rfl rfl rfl) ?_))
  refine AL.rp rfl rfl (rp_pick rfl rfl rfl) ?_
  refine AL.nil ?_
  try simp only [thenS, S.put]
  refine AW.condT rfl ?_
  refine AW.seq ?_
  refine AW.region ?_
  refine AL.rp rfl rfl (rp_assign rfl rfl) ?_
  refine AL.rp rfl rfl (rp_assign rfl rfl) ?_
  refine AL.nil ?_
  try simp only [thenS, S.put]
  refine AW.ret ?_
  exact ⟨[_, _], ⟨rfl, rfl, trivial⟩, rfl, by simp [tupOf, V.pure, V.has, V.hasL]⟩
 ·refine Fn.intro (n := 21) ⟨Try.func56, rfl, rfl, rfl, rfl⟩ (by simp [V.pure, V.has, V.hasL]) (by simp) fun w0 out => ?_
  refine AW.seq ?_
  refine AW.region ?_
  refine AL.rp rfl rfl (rp_assign rfl rfl) ?_
  refine AL.rp rfl rfl (rp_assign rfl rfl) ?_
  refine AL.nil ?_
  try simp only [thenS, S.put, enum, List.nil_append, List.cons_append, List.append_nil, Nat.zero_add, Nat.reduceAdd]
  refine AW.seq ?_
  refine AW.seq ?_
  refine AW.region ?_
  refine AL.rp rfl rfl (rp_move rfl rfl) ?_
  (first | (refine AL.rp rfl rfl (rp_eqlT rfl rfl rfl (by first | assumption | omega | (dsimp only; omega))) ?_) | (refine AL.rp rfl rfl (rp_eqlF rfl rfl rfl (by first | assumption | omega | (dsimp only; omega))) ?_) | (refine AL.rp rfl rfl (rp_eql rfl rfl rfl) ?_))
  refine AL.rp rfl rfl (rp_move rfl rfl) ?_
  (first | (refine AL.noV rfl rfl rfl rfl ?_) | (refine AL.noU rfl ⟨_, rfl, rfl⟩ rfl ?_) | (refine AL.rpy rfl rfl rfl (rp_move rfl rfl) ?_))
  (first | (refine AL.noV rfl rfl rfl rfl ?_) | (refine AL.noU rfl ⟨_, rfl, rfl⟩ rfl ?_) | (refine AL.rpy rfl rfl rfl (rp_eqlT rfl rfl rfl (by first | assumption | omega | (dsimp only; omega))) ?_) | (refine AL.rpy rfl rfl rfl (rp_eqlF rfl rfl rfl (by first | assumption | omega | (dsimp only; omega))) ?_) | (refine AL.rpy rfl rfl rfl (rp_eql rfl rfl rfl) ?_))
  refine AL.rp rfl rfl (rp_pick rfl rfl rfl) ?_
  refine AL.nil ?_
  try simp only [thenS, S.put]
  refine AW.condT rfl ?_
  refine AW.seq ?_
  refine AW.region ?_
  refine AL.rp rfl rfl (rp_assign rfl rfl) ?_
  refine AL.rp rfl rfl (rp_assign rfl rfl) ?_
  refine AL.nil ?_
  try simp only [thenS, S.put]
  refine AW.ret ?_
  exact ⟨[_, _], ⟨rfl, rfl, trivial⟩, rfl, by simp [tupOf, V.pure, V.has, V.hasL]⟩
theorem am_rtimes_inf (n : Int) (h : ¬ n = 0) : Fn Try.prog 56 [.i 1000000001, .i n] (fun v => v = .tup [.i 1000000001, .b true]) := by
 refine Fn.intro (n := 21) ⟨Try.func56, rfl, rfl, rfl, rfl⟩ (by simp [V.pure, V.has, V.hasL]) (by simp) fun w0 out => ?_
 refine AW.seq ?_
 refine AW.region ?_
 refine AL.rp rfl rfl (rp_assign rfl rfl) ?_
 refine AL.rp rfl rfl (rp_assign rfl rfl) ?_
 refine AL.nil ?_
 try simp only [thenS, S.put, enum, List.nil_append, List.cons_append, List.append_nil, Nat.zero_add, Nat.reduceAdd]
 refine AW.seq ?_
 refine AW.seq ?_
 refine AW.region ?_
 refine AL.rp rfl rfl (rp_move rfl rfl) ?_
 (first | (refine AL.rp rfl rfl (rp_eqlT rfl rfl rfl (by first | assumption | omega | (dsimp only; omega))) ?_) | (refine AL.rp rfl rfl (rp_eqlF rfl rfl rfl (by first | assumption | omega | (dsimp only; omega))) ?_) | (refine AL.rp rfl rfl (rp_eql rfl rfl rfl) ?_))
 refine AL.rp rfl rfl (rp_move rfl rfl) ?_
 (first | (refine AL.noV rfl rfl rfl rfl ?_) | (refine AL.noU rfl ⟨_, rfl, rfl⟩ rfl ?_) | (refine AL.rpy rfl rfl rfl (rp_move rfl rfl) ?_))
 (first | (refine AL.noV rfl rfl rfl rfl ?_) | (refine AL.noU rfl ⟨_, rfl, rfl⟩ rfl ?_) | (refine AL.rpy rfl rfl rfl (rp_eqlT rfl rfl rfl (by first | assumption | omega | (dsimp only; omega))) ?_) | (refine AL.rpy rfl rfl rfl (rp_eqlF rfl rfl rfl (by first | assumption | omega | (dsimp only; omega))) ?_) | (refine AL.rpy rfl rfl rfl (rp_eql rfl rfl rfl) ?_))
 refine AL.rp rfl rfl (rp_pick rfl rfl rfl) ?_
 refine AL.nil ?_
 try simp only [thenS, S.put]
 refine AW.condF rfl ?_
 refine AW.skip ?_
 try simp only [thenS]
 refine AW.seq ?_
 refine AW.seq ?_
 refine AW.region ?_
 refine AL.rp rfl rfl (rp_move rfl rfl) ?_
 (first | (refine AL.rp rfl rfl (rp_eqlT rfl rfl rfl (by first | assumption | omega | (dsimp only; omega))) ?_) | (refine AL.rp rfl rfl (rp_eqlF rfl rfl rfl (by first | assumption | omega | (dsimp only; omega))) ?_) | (refine AL.rp rfl rfl (rp_eql rfl rfl rfl) ?_))
 refine AL.nil ?_
 try simp only [thenS, S.put]
 refine AW.condT rfl ?_
 refine AW.seq ?_
 refine AW.region ?_
 refine AL.rp rfl rfl (rp_assign rfl rfl) ?_
 refine AL.rp rfl rfl (rp_assign rfl rfl) ?_
 refine AL.nil ?_
 try simp only [thenS, S.put]
 refine AW.ret ?_
 exact ⟨[_, _], ⟨rfl, rfl, trivial⟩, rfl, by simp [tupOf, V.pure, V.has, V.hasL]⟩
theorem am_rtimes_over (w n : Int) (hw : 0 ≤ w ∧ w ≤ 1000000000) (hn : 0 ≤ n ∧ n ≤ 1000000000) (h : 1000000000 < w * n) : Fn Try.prog 56 [.i w, .i n] (fun v => v = .tup [.i 0, .b false]) := by
 have h1 : ¬ w = 0 := by rintro rfl; rw [Int.zero_mul] at h; omega
 have h2 : ¬ n = 0 := by rintro rfl; rw [Int.mul_zero] at h; omega
 have h3 : 1000000000 / w < n := Int.ediv_lt_of_lt_mul (by omega) (by rw [Int.mul_comm]; exact h)
 refine Fn.intro (n := 21) ⟨Try.func56, rfl, rfl, rfl, rfl⟩ (by simp [V.pure, V.has, V.hasL]) (by simp) fun w0 out => ?_
 refine AW.seq ?_
 refine AW.region ?_
 refine AL.rp rfl rfl (rp_assign rfl rfl) ?_
 refine AL.rp rfl rfl (rp_assign rfl rfl) ?_
 refine AL.nil ?_
 try simp only [thenS, S.put, enum, List.nil_append, List.cons_append, List.append_nil, Nat.zero_add, Nat.reduceAdd]
 refine AW.seq ?_
 refine AW.seq ?_
 refine AW.region ?_
 refine AL.rp rfl rfl (rp_move rfl rfl) ?_
 (first | (refine AL.rp rfl rfl (rp_eqlT rfl rfl rfl (by first | assumption | omega | (dsimp only; omega))) ?_) | (refine AL.rp rfl rfl (rp_eqlF rfl rfl rfl (by first | assumption | omega | (dsimp only; omega))) ?_) | (refine AL.rp rfl rfl (rp_eql rfl rfl rfl) ?_))
 refine AL.rp rfl rfl (rp_move rfl rfl) ?_
 (first | (refine AL.noV rfl rfl rfl rfl ?_) | (refine AL.noU rfl ⟨_, rfl, rfl⟩ rfl ?_) | (refine AL.rpy rfl rfl rfl (rp_move rfl rfl) ?_))
 (first | (refine AL.noV rfl rfl rfl rfl ?_) | (refine AL.noU rfl ⟨_, rfl, rfl⟩ rfl ?_) | (refine AL.rpy rfl rfl rfl (rp_eqlT rfl rfl rfl (by first | assumption | omega | (dsimp only; omega))) ?_) | (refine AL.rpy rfl rfl rfl (rp_eqlF rfl rfl rfl (by first | assumption | omega | (dsimp only; omega))) ?_) | (refine AL.rpy rfl rfl rfl (rp_eql rfl rfl rfl) ?_))
 refine AL.rp rfl rfl (rp_pick rfl rfl rfl) ?_
 refine AL.nil ?_
 try simp only [thenS, S.put]
 refine AW.condF rfl ?_
 refine AW.skip ?_
 try simp only [thenS]
 refine AW.seq ?_
 refine AW.seq ?_
 refine AW.region ?_
 refine AL.rp rfl rfl (rp_move rfl rfl) ?_
 (first | (refine AL.rp rfl rfl (rp_eqlT rfl rfl rfl (by first | assumption | omega | (dsimp only; omega))) ?_) | (refine AL.rp rfl rfl (rp_eqlF rfl rfl rfl (by first | assumption | omega | (dsimp only; omega))) ?_) | (refine AL.rp rfl rfl (rp_eql rfl rfl rfl) ?_))
 refine AL.nil ?_
 try simp only [thenS, S.put]
 refine AW.condF rfl ?_
 refine AW.skip ?_
 try simp only [thenS]
 refine AW.seq ?_
 refine AW.seq ?_
 refine AW.region ?_
 refine AL.rp rfl rfl (rp_move rfl rfl) ?_
 refine AL.rp rfl rfl (rp_move rfl rfl) ?_
 refine AL.rp rfl rfl (rp_quo rfl rfl rfl (by omega)) ?_
 (first | (refine AL.rp rfl rfl (rp_gtrT rfl rfl rfl (by first | assumption | omega | (dsimp only; omega))) ?_) | (refine AL.rp rfl rfl (rp_gtrF rfl rfl rfl (by first | assumption | omega | (dsimp only; omega))) ?_) | (refine AL.rp rfl rfl (rp_gtr rfl rfl rfl) ?_))
 refine AL.nil ?_
 try simp only [thenS, S.put]
 refine AW.condT rfl ?_
 refine AW.seq ?_
 refine AW.region ?_
 refine AL.rp rfl rfl (rp_assign rfl rfl) ?_
 refine AL.rp rfl rfl (rp_assign rfl rfl) ?_
 refine AL.nil ?_
 try simp only [thenS, S.put]
 refine AW.ret ?_
 exact ⟨[_, _], ⟨rfl, rfl, trivial⟩, rfl, by simp [tupOf, V.pure, V.has, V.hasL]⟩
theorem am_rtimes_ok (w n : Int) (hw : 0 ≤ w ∧ w ≤ 1000000000) (hn : 0 ≤ n ∧ n ≤ 1000000000) (h : ¬ 1000000000 < w * n) : Fn Try.prog 56 [.i w, .i n] (fun v => v = .tup [.i (w * n), .b true]) := by
 by_cases h0 : w = 0 ∨ n = 0
 ·have : w * n = 0 := by rcases h0 with rfl | rfl <;> simp
  rw [this]
  exact am_rtimes_z w n h0
 ·have h3 : ¬ 1000000000 / w < n := by
   have := (Int.le_ediv_iff_mul_le (a := n) (b := 1000000000) (c := w) (by omega)).2 (by rw [Int.mul_comm]; omega)
   omega
  have h4 := mul_nn hw.1 hn.1
  refine Fn.intro (n := 21) ⟨Try.func56, rfl, rfl, rfl, rfl⟩ (by simp [V.pure, V.has, V.hasL]) (by simp) fun w0 out => ?_
  refine AW.seq ?_
  refine AW.region ?_
  refine AL.rp rfl rfl (rp_assign rfl rfl) ?_
  refine AL.rp rfl rfl (rp_assign rfl rfl) ?_
  refine AL.nil ?_
  try simp only [thenS, S.put, enum, List.nil_append, List.cons_append, List.append_nil, Nat.zero_add, Nat.reduceAdd]
  refine AW.seq ?_
  refine AW.seq ?_
  refine AW.region ?_
  refine AL.rp rfl rfl (rp_move rfl rfl) ?_
  (first | (refine AL.rp rfl rfl (rp_eqlT rfl rfl rfl (by first | assumption | omega | (dsimp only; omega))) ?_) | (refine AL.rp rfl rfl (rp_eqlF rfl rfl rfl (by first | assumption | omega | (dsimp only; omega))) ?_) | (refine AL.rp rfl rfl (rp_eql rfl rfl rfl) ?_))
  refine AL.rp rfl rfl (rp_move rfl rfl) ?_
  (first | (refine AL.noV rfl rfl rfl rfl ?_) | (refine AL.noU rfl ⟨_, rfl, rfl⟩ rfl ?_) | (refine AL.rpy rfl rfl rfl (rp_move rfl rfl) ?_))
  (first | (refine AL.noV rfl rfl rfl rfl ?_) | (refine AL.noU rfl ⟨_, rfl, rfl⟩ rfl ?_) | (refine AL.rpy rfl rfl rfl (rp_eqlT rfl rfl rfl (by first | assumption | omega | (dsimp only; omega))) ?_) | (refine AL.rpy rfl rfl rfl (rp_eqlF rfl rfl rfl (by first | assumption | omega | (dsimp only; omega))) ?_) | (refine AL.rpy rfl rfl rfl (rp_eql rfl rfl rfl) ?_))
  refine AL.rp rfl rfl (rp_pick rfl rfl rfl) ?_
  refine AL.nil ?_
  try simp only [thenS, S.put]
  refine AW.condF rfl ?_
  refine AW.skip ?_
  try simp only [thenS]
  refine AW.seq ?_
  refine AW.seq ?_
  refine AW.region ?_
  refine AL.rp rfl rfl (rp_move rfl rfl) ?_
  (first | (refine AL.rp rfl rfl (rp_eqlT rfl rfl rfl (by first | assumption | omega | (dsimp only; omega))) ?_) | (refine AL.rp rfl rfl (rp_eqlF rfl rfl rfl (by first | assumption | omega | (dsimp only; omega))) ?_) | (refine AL.rp rfl rfl (rp_eql rfl rfl rfl) ?_))
  refine AL.nil ?_
  try simp only [thenS, S.put]
  refine AW.condF rfl ?_
  refine AW.skip ?_
  try simp only [thenS]
  refine AW.seq ?_
  refine AW.seq ?_
  refine AW.region ?_
  refine AL.rp rfl rfl (rp_move rfl rfl) ?_
  refine AL.rp rfl rfl (rp_move rfl rfl) ?_
  refine AL.rp rfl rfl (rp_quo rfl rfl rfl (by omega)) ?_
  (first | (refine AL.rp rfl rfl (rp_gtrT rfl rfl rfl (by first | assumption | omega | (dsimp only; omega))) ?_) | (refine AL.rp rfl rfl (rp_gtrF rfl rfl rfl (by first | assumption | omega | (dsimp only; omega))) ?_) | (refine AL.rp rfl rfl (rp_gtr rfl rfl rfl) ?_))
  refine AL.nil ?_
  try simp only [thenS, S.put]
  refine AW.condF rfl ?_
  refine AW.skip ?_
  try simp only [thenS]
  refine AW.seq ?_
  refine AW.region ?_
  refine AL.rp rfl rfl (rp_move rfl rfl) ?_
  refine AL.rp rfl rfl (rp_move rfl rfl) ?_
  refine AL.rp rfl rfl (rp_mul rfl rfl rfl (by first | omega | (dsimp only; omega))) ?_
  refine AL.rp rfl rfl (rp_assign rfl rfl) ?_
  refine AL.rp rfl rfl (rp_assign rfl rfl) ?_
  refine AL.nil ?_
  try simp only [thenS, S.put]
  refine AW.ret ?_
  exact ⟨[_, _], ⟨rfl, rfl, trivial⟩, rfl, by simp [tupOf, V.pure, V.has, V.hasL]⟩
theorem am_TwinPower (x y N : Int) : Fn Try.prog 26 [.agg [.i x, .i y], .i N] (fun v => v = .tup [.agg [.i (powA x y N).1, .i (powA x y N).2], .i (powE x y N)]) := by
 by_cases hm : mayT x y
 ·have hm1 := Fn.decT (am_TwinMay x y) hm
  by_cases hN : 0 ≤ N ∧ N ≤ 1000000000
  ·by_cases hx : x = 1000000001
   ·have hE : powE x y N = 0 := by unfold powE; rw [if_neg (by simp [hm, hN]), if_pos hx]
    have hy : y = 1000000001 := by unfold mayT at hm; omega
    have hA : powA x y N = (if N = 0 then 0 else 1000000001, if N = 0 then 0 else 1000000001) := by
     unfold powA
     rw [if_neg (by simp [hE]), if_pos hx]
     split <;> rfl
    rw [hE, hA]
    have ht : Fn Try.prog 56 [.i 1000000001, .i N] (fun v => v = .tup [.i (if N = 0 then 0 else 1000000001), .b true]) := by
     by_cases h : N = 0
     ·rw [if_pos h]; exact am_rtimes_z _ N (.inr h)
     ·rw [if_neg h]; exact am_rtimes_inf N h
    subst hx hy
    refine Fn.intro (n := 43) ⟨Try.func26, rfl, rfl, rfl, rfl⟩ (by simp [V.pure, V.has, V.hasL]) (by simp) fun w0 out => ?_
    refine AW.seq ?_
    refine AW.region ?_
    refine AL.sm rfl (sm_box 2 rfl rfl rfl (by first | rfl | simp [S.clean, S.put, S.newObj, S.forget, V.has, V.hasL, junkIf, setL, V.cs, hasL_i, hasL_b, hasL_s, hasL_n, hasL_rep, hasL_flat, hasL_append, -List.map_set]) rfl) ?_
    refine AL.sm rfl (sm_alloc (l := [.d (.p (.int .i64 0)), .d (.p (.int .i64 0))]) 4 inf49 rfl (by first | rfl | simp [S.clean, S.put, S.newObj, S.forget, V.has, V.hasL, junkIf, setL, V.cs, hasL_i, hasL_b, hasL_s, hasL_n, hasL_rep, hasL_flat, hasL_append, -List.map_set]) rfl rfl) ?_
    refine AL.rp rfl rfl (rp_assign rfl rfl) ?_
    refine AL.nil ?_
    try simp only [thenS, S.put, S.newObj, setL, V.cs, List.length_cons, List.length_nil, List.take_succ_cons, List.take_zero, List.drop_succ_cons, List.drop_zero, List.drop_nil, List.nil_append, List.cons_append, List.append_nil, Nat.zero_add, Nat.reduceAdd, List.map_cons, List.map_nil, List.set_cons_zero, List.set_cons_succ, enum]
    refine AW.seq ?_
    refine AW.seq ?_
    refine AW.region ?_
    (first | (refine AL.rd rfl rfl (rd_loads_ref Try.underlying49 rfl inf49 rfl rfl rfl rfl rfl rfl) ?_) | (refine AL.rd rfl rfl (rd_loads_ad Try.underlying49 rfl inf49 rfl rfl rfl rfl) ?_))
    refine AL.call (post := ?pc31) rfl (sm_call (args := [_]) ?hc31 ⟨Try.func54, rfl, rfl, rfl, rfl⟩ rfl rfl rfl rfl) ?_
    case hc31 => exact hm1
    rintro _ rfl -
    try dsimp only
    refine AL.rp rfl rfl (rp_not rfl rfl) ?_
    refine AL.rp rfl rfl (rp_move rfl rfl) ?_
    (first | (refine AL.noV rfl rfl rfl rfl ?_) | (refine AL.noU rfl ⟨_, rfl, rfl⟩ rfl ?_) | (refine AL.rpy rfl rfl rfl (rp_move rfl rfl) ?_))
    (first | (refine AL.no rfl rfl rfl rfl ?_) | (refine AL.noU rfl ⟨_, rfl, rfl⟩ rfl ?_) | (refine AL.cally (post := ?pc32) rfl rfl (sm_call (args := [_, _, _]) ?hc32 ⟨Try.func55, rfl, rfl, rfl, rfl⟩ rfl rfl rfl rfl) ?_; (case hc32 => (first | (refine Fn.decT (am_In _ _ _) ?_; omega) | (refine Fn.decF (am_In _ _ _) ?_; omega) | exact am_In _ _ _)); rintro _ rfl -; try dsimp only))
    (first | (refine AL.noV rfl rfl rfl rfl ?_) | (refine AL.noU rfl ⟨_, rfl, rfl⟩ rfl ?_) | (refine AL.rpy rfl rfl rfl (rp_not rfl rfl) ?_))
    refine AL.rp rfl rfl (rp_pick rfl rfl rfl) ?_
    refine AL.nil ?_
    try simp only [thenS, S.put, S.newObj, setL, V.cs, List.length_cons, List.length_nil, List.take_succ_cons, List.take_zero, List.drop_succ_cons, List.drop_zero, List.drop_nil, List.nil_append, List.cons_append, List.append_nil, Nat.zero_add, Nat.reduceAdd, List.map_cons, List.map_nil, List.set_cons_zero, List.set_cons_succ]
    refine AW.condF rfl ?_
    refine AW.skip ?_
    try simp only [thenS]
    refine AW.seq ?_
    refine AW.region ?_
    (first | (refine AL.rp rfl rfl (rp_field_ref Try.underlying49 rfl rfl rfl inf3 (by decide) rfl) ?_) | (refine AL.rp rfl rfl (rp_field_ad Try.underlying49 rfl rfl rfl inf3 (by decide) rfl) ?_))
    (first | (refine AL.rd rfl rfl (rd_load_ref Try.underlying3 rfl rfl rfl rfl rfl rfl) ?_) | (refine AL.rd rfl rfl (rd_load_ad Try.underlying3 rfl rfl rfl rfl) ?_) | (refine AL.rd rfl rfl (rd_load_map Try.underlying3 rfl rfl rfl rfl rfl rfl (by assumption)) ?_) | (refine AL.rd rfl rfl (rd_load_flat Try.underlying3 rfl rfl rfl rfl rfl rfl (fun _ => rfl) (by assumption) rfl) ?_))
    refine AL.rp rfl rfl (rp_move rfl rfl) ?_
    refine AL.call (post := ?pc33) rfl (sm_call (args := [_, _]) ?hc33 ⟨Try.func56, rfl, rfl, rfl, rfl⟩ rfl rfl rfl rfl) ?_
    case hc33 => exact ht
    rintro _ rfl -
    try dsimp only
    refine AL.rp rfl rfl (rp_move rfl rfl) ?_
    refine AL.rp rfl rfl (rp_extract rfl rfl rfl) ?_
    refine AL.rp rfl rfl (rp_extract rfl rfl rfl) ?_
    refine AL.rp rfl rfl (rp_assign rfl rfl) ?_
    refine AL.rp rfl rfl (rp_assign rfl rfl) ?_
    refine AL.nil ?_
    try simp only [thenS, S.put, S.newObj, setL, V.cs, List.length_cons, List.length_nil, List.take_succ_cons, List.take_zero, List.drop_succ_cons, List.drop_zero, List.drop_nil, List.nil_append, List.cons_append, List.append_nil, Nat.zero_add, Nat.reduceAdd, List.map_cons, List.map_nil, List.set_cons_zero, List.set_cons_succ]
    refine AW.seq ?_
    refine AW.region ?_
    (first | (refine AL.rp rfl rfl (rp_field_ref Try.underlying49 rfl rfl rfl inf3 (by decide) rfl) ?_) | (refine AL.rp rfl rfl (rp_field_ad Try.underlying49 rfl rfl rfl inf3 (by decide) rfl) ?_))
    (first | (refine AL.rd rfl rfl (rd_load_ref Try.underlying3 rfl rfl rfl rfl rfl rfl) ?_) | (refine AL.rd rfl rfl (rd_load_ad Try.underlying3 rfl rfl rfl rfl) ?_) | (refine AL.rd rfl rfl (rd_load_map Try.underlying3 rfl rfl rfl rfl rfl rfl (by assumption)) ?_) | (refine AL.rd rfl rfl (rd_load_flat Try.underlying3 rfl rfl rfl rfl rfl rfl (fun _ => rfl) (by assumption) rfl) ?_))
    refine AL.rp rfl rfl (rp_move rfl rfl) ?_
    refine AL.call (post := ?pc34) rfl (sm_call (args := [_, _]) ?hc34 ⟨Try.func56, rfl, rfl, rfl, rfl⟩ rfl rfl rfl rfl) ?_
    case hc34 => exact ht
    rintro _ rfl -
    try dsimp only
    refine AL.rp rfl rfl (rp_move rfl rfl) ?_
    refine AL.rp rfl rfl (rp_extract rfl rfl rfl) ?_
    refine AL.rp rfl rfl (rp_extract rfl rfl rfl) ?_
    refine AL.rp rfl rfl (rp_assign rfl rfl) ?_
    refine AL.rp rfl rfl (rp_assign rfl rfl) ?_
    refine AL.nil ?_
    try simp only [thenS, S.put, S.newObj, setL, V.cs, List.length_cons, List.length_nil, List.take_succ_cons, List.take_zero, List.drop_succ_cons, List.drop_zero, List.drop_nil, List.nil_append, List.cons_append, List.append_nil, Nat.zero_add, Nat.reduceAdd, List.map_cons, List.map_nil, List.set_cons_zero, List.set_cons_succ]
    refine AW.seq ?_
    refine AW.seq ?_
    refine AW.region ?_
    refine AL.rp rfl rfl (rp_move rfl rfl) ?_
    refine AL.rp rfl rfl (rp_not rfl rfl) ?_
    refine AL.rp rfl rfl (rp_move rfl rfl) ?_
    (first | (refine AL.noV rfl rfl rfl rfl ?_) | (refine AL.noU rfl ⟨_, rfl, rfl⟩ rfl ?_) | (refine AL.rpy rfl rfl rfl (rp_move rfl rfl) ?_))
    (first | (refine AL.noV rfl rfl rfl rfl ?_) | (refine AL.noU rfl ⟨_, rfl, rfl⟩ rfl ?_) | (refine AL.rpy rfl rfl rfl (rp_not rfl rfl) ?_))
    refine AL.rp rfl rfl (rp_pick rfl rfl rfl) ?_
    refine AL.nil ?_
    try simp only [thenS, S.put]
    refine AW.condF rfl ?_
    refine AW.skip ?_
    try simp only [thenS]
    refine AW.seq ?_
    refine AW.region ?_
    refine AL.rp rfl rfl (rp_move rfl rfl) ?_
    refine AL.rp rfl rfl (rp_move rfl rfl) ?_
    refine AL.rp rfl rfl (rp_build (vs := [(0, _), (1, _)]) (zs := [.d (.p (.int .i64 0)), .d (.p (.int .i64 0))]) pl49 inf49 rfl rfl rfl rfl) ?_
    refine AL.st rfl (st_store_any inf49 rfl rfl rfl rfl rfl rfl rfl rfl (by first | decide | (simp; done) | (simp; omega)) rfl) ?_
    refine AL.rp rfl rfl (rp_assign rfl rfl) ?_
    refine AL.nil ?_
    try simp only [thenS, S.put, S.newObj, setL, V.cs, List.length_cons, List.length_nil, List.take_succ_cons, List.take_zero, List.drop_succ_cons, List.drop_zero, List.drop_nil, List.nil_append, List.cons_append, List.append_nil, Nat.zero_add, Nat.reduceAdd, List.map_cons, List.map_nil, List.set_cons_zero, List.set_cons_succ]
    refine AW.ret ?_
    exact ⟨[_, _], ⟨⟨4, 0, _, _, rfl, rfl, rfl, Try.underlying49, .inr ⟨rfl, _, _, _, _, inf49, rfl, rfl, rfl⟩⟩, rfl, trivial⟩, rfl, by simp [tupOf, V.pure, V.has, V.hasL]⟩
   ·have hb : (0 ≤ x ∧ x ≤ 1000000000) ∧ (0 ≤ y ∧ y ≤ 1000000000) := by unfold mayT at hm; omega
    by_cases h1 : 1000000000 < x * N
    ·have hE : powE x y N = 4 := by unfold powE; rw [if_neg (by simp [hm, hN]), if_neg hx, if_pos (.inl h1)]
     have hA : powA x y N = (0, 0) := by unfold powA; rw [if_pos (by simp [hE])]
     rw [hE, hA]
     have ht1 := am_rtimes_over x N hb.1 hN h1
     by_cases h2 : 1000000000 < y * N
     ·have ht2 := am_rtimes_over y N hb.2 hN h2
      refine Fn.intro (n := 43) ⟨Try.func26, rfl, rfl, rfl, rfl⟩ (by simp [V.pure, V.has, V.hasL]) (by simp) fun w0 out => ?_
      refine AW.seq ?_
      refine AW.region ?_
      refine AL.sm rfl (sm_box 2 rfl rfl rfl (by first | rfl | simp [S.clean, S.put, S.newObj, S.forget, V.has, V.hasL, junkIf, setL, V.cs, hasL_i, hasL_b, hasL_s, hasL_n, hasL_rep, hasL_flat, hasL_append, -List.map_set]) rfl) ?_
      refine AL.sm rfl (sm_alloc (l := [.d (.p (.int .i64 0)), .d (.p (.int .i64 0))]) 4 inf49 rfl (by first | rfl | simp [S.clean, S.put, S.newObj, S.forget, V.has, V.hasL, junkIf, setL, V.cs, hasL_i, hasL_b, hasL_s, hasL_n, hasL_rep, hasL_flat, hasL_append, -List.map_set]) rfl rfl) ?_
      refine AL.rp rfl rfl (rp_assign rfl rfl) ?_
      refine AL.nil ?_
      try simp only [thenS, S.put, S.newObj, setL, V.cs, List.length_cons, List.length_nil, List.take_succ_cons, List.take_zero, List.drop_succ_cons, List.drop_zero, List.drop_nil, List.nil_append, List.cons_append, List.append_nil, Nat.zero_add, Nat.reduceAdd, List.map_cons, List.map_nil, List.set_cons_zero, List.set_cons_succ, enum]
      refine AW.seq ?_
      refine AW.seq ?_
      refine AW.region ?_
      (first | (refine AL.rd rfl rfl (rd_loads_ref Try.underlying49 rfl inf49 rfl rfl rfl rfl rfl rfl) ?_) | (refine AL.rd rfl rfl (rd_loads_ad Try.underlying49 rfl inf49 rfl rfl rfl rfl) ?_))
      refine AL.call (post := ?pc35) rfl (sm_call (args := [_]) ?hc35 ⟨Try.func54, rfl, rfl, rfl, rfl⟩ rfl rfl rfl rfl) ?_
      case hc35 => exact hm1
      rintro _ rfl -
      try dsimp only
      refine AL.rp rfl rfl (rp_not rfl rfl) ?_
      refine AL.rp rfl rfl (rp_move rfl rfl) ?_
      (first | (refine AL.noV rfl rfl rfl rfl ?_) | (refine AL.noU rfl ⟨_, rfl, rfl⟩ rfl ?_) | (refine AL.rpy rfl rfl rfl (rp_move rfl rfl) ?_))
      (first | (refine AL.no rfl rfl rfl rfl ?_) | (refine AL.noU rfl ⟨_, rfl, rfl⟩ rfl ?_) | (refine AL.cally (post := ?pc36) rfl rfl (sm_call (args := [_, _, _]) ?hc36 ⟨Try.func55, rfl, rfl, rfl, rfl⟩ rfl rfl rfl rfl) ?_; (case hc36 => (first | (refine Fn.decT (am_In _ _ _) ?_; omega) | (refine Fn.decF (am_In _ _ _) ?_; omega) | exact am_In _ _ _)); rintro _ rfl -; try dsimp only))
      (first | (refine AL.noV rfl rfl rfl rfl ?_) | (refine AL.noU rfl ⟨_, rfl, rfl⟩ rfl ?_) | (refine AL.rpy rfl rfl rfl (rp_not rfl rfl) ?_))
      refine AL.rp rfl rfl (rp_pick rfl rfl rfl) ?_
      refine AL.nil ?_
      try simp only [thenS, S.put, S.newObj, setL, V.cs, List.length_cons, List.length_nil, List.take_succ_cons, List.take_zero, List.drop_succ_cons, List.drop_zero, List.drop_nil, List.nil_append, List.cons_append, List.append_nil, Nat.zero_add, Nat.reduceAdd, List.map_cons, List.map_nil, List.set_cons_zero, List.set_cons_succ]
      refine AW.condF rfl ?_
      refine AW.skip ?_
      try simp only [thenS]
      refine AW.seq ?_
      refine AW.region ?_
      (first | (refine AL.rp rfl rfl (rp_field_ref Try.underlying49 rfl rfl rfl inf3 (by decide) rfl) ?_) | (refine AL.rp rfl rfl (rp_field_ad Try.underlying49 rfl rfl rfl inf3 (by decide) rfl) ?_))
      (first | (refine AL.rd rfl rfl (rd_load_ref Try.underlying3 rfl rfl rfl rfl rfl rfl) ?_) | (refine AL.rd rfl rfl (rd_load_ad Try.underlying3 rfl rfl rfl rfl) ?_) | (refine AL.rd rfl rfl (rd_load_map Try.underlying3 rfl rfl rfl rfl rfl rfl (by assumption)) ?_) | (refine AL.rd rfl rfl (rd_load_flat Try.underlying3 rfl rfl rfl rfl rfl rfl (fun _ => rfl) (by assumption) rfl) ?_))
      refine AL.rp rfl rfl (rp_move rfl rfl) ?_
      refine AL.call (post := ?pc37) rfl (sm_call (args := [_, _]) ?hc37 ⟨Try.func56, rfl, rfl, rfl, rfl⟩ rfl rfl rfl rfl) ?_
      case hc37 => exact ht1
      rintro _ rfl -
      try dsimp only
      refine AL.rp rfl rfl (rp_move rfl rfl) ?_
      refine AL.rp rfl rfl (rp_extract rfl rfl rfl) ?_
      refine AL.rp rfl rfl (rp_extract rfl rfl rfl) ?_
      refine AL.rp rfl rfl (rp_assign rfl rfl) ?_
      refine AL.rp rfl rfl (rp_assign rfl rfl) ?_
      refine AL.nil ?_
      try simp only [thenS, S.put, S.newObj, setL, V.cs, List.length_cons, List.length_nil, List.take_succ_cons, List.take_zero, List.drop_succ_cons, List.drop_zero, List.drop_nil, List.nil_append, List.cons_append, List.append_nil, Nat.zero_add, Nat.reduceAdd, List.map_cons, List.map_nil, List.set_cons_zero, List.set_cons_succ]
      refine AW.seq ?_
      refine AW.region ?_
      (first | (refine AL.rp rfl rfl (rp_field_ref Try.underlying49 rfl rfl rfl inf3 (by decide) rfl) ?_) | (refine AL.rp rfl rfl (rp_field_ad Try.underlying49 rfl rfl rfl inf3 (by decide) rfl) ?_))
      (first | (refine AL.rd rfl rfl (rd_load_ref Try.underlying3 rfl rfl rfl rfl rfl rfl) ?_) | (refine AL.rd rfl rfl (rd_load_ad Try.underlying3 rfl rfl rfl rfl) ?_) | (refine AL.rd rfl rfl (rd_load_map Try.underlying3 rfl rfl rfl rfl rfl rfl (by assumption)) ?_) | (refine AL.rd rfl rfl (rd_load_flat Try.underlying3 rfl rfl rfl rfl rfl rfl (fun _ => rfl) (by assumption) rfl) ?_))
      refine AL.rp rfl rfl (rp_move rfl rfl) ?_
      refine AL.call (post := ?pc38) rfl (sm_call (args := [_, _]) ?hc38 ⟨Try.func56, rfl, rfl, rfl, rfl⟩ rfl rfl rfl rfl) ?_
      case hc38 => exact ht2
      rintro _ rfl -
      try dsimp only
      refine AL.rp rfl rfl (rp_move rfl rfl) ?_
      refine AL.rp rfl rfl (rp_extract rfl rfl rfl) ?_
      refine AL.rp rfl rfl (rp_extract rfl rfl rfl) ?_
      refine AL.rp rfl rfl (rp_assign rfl rfl) ?_
      refine AL.rp rfl rfl (rp_assign rfl rfl) ?_
      refine AL.nil ?_
      try simp only [thenS, S.put, S.newObj, setL, V.cs, List.length_cons, List.length_nil, List.take_succ_cons, List.take_zero, List.drop_succ_cons, List.drop_zero, List.drop_nil, List.nil_append, List.cons_append, List.append_nil, Nat.zero_add, Nat.reduceAdd, List.map_cons, List.map_nil, List.set_cons_zero, List.set_cons_succ]
      refine AW.seq ?_
      refine AW.seq ?_
      refine AW.region ?_
      refine AL.rp rfl rfl (rp_move rfl rfl) ?_
      refine AL.rp rfl rfl (rp_not rfl rfl) ?_
      refine AL.rp rfl rfl (rp_move rfl rfl) ?_
      (first | (refine AL.noV rfl rfl rfl rfl ?_) | (refine AL.noU rfl ⟨_, rfl, rfl⟩ rfl ?_) | (refine AL.rpy rfl rfl rfl (rp_move rfl rfl) ?_))
      (first | (refine AL.noV rfl rfl rfl rfl ?_) | (refine AL.noU rfl ⟨_, rfl, rfl⟩ rfl ?_) | (refine AL.rpy rfl rfl rfl (rp_not rfl rfl) ?_))
      refine AL.rp rfl rfl (rp_pick rfl rfl rfl) ?_
      refine AL.nil ?_
      try simp only [thenS, S.put]
      refine AW.condT rfl ?_
      refine AW.seq ?_
      refine AW.region ?_
      refine AL.rp rfl rfl (rp_build (vs := []) (zs := [.d (.p (.int .i64 0)), .d (.p (.int .i64 0))]) pl49 inf49 rfl rfl rfl rfl) ?_
      refine AL.st rfl (st_store_any inf49 rfl rfl rfl rfl rfl rfl rfl rfl (by first | decide | (simp; done) | (simp; omega)) rfl) ?_
      refine AL.rp rfl rfl (rp_assign rfl rfl) ?_
      refine AL.nil ?_
      try simp only [thenS, S.put, S.newObj, setL, V.cs, List.length_cons, List.length_nil, List.take_succ_cons, List.take_zero, List.drop_succ_cons, List.drop_zero, List.drop_nil, List.nil_append, List.cons_append, List.append_nil, Nat.zero_add, Nat.reduceAdd, List.map_cons, List.map_nil, List.set_cons_zero, List.set_cons_succ]
      refine AW.ret ?_
      exact ⟨[_, _], ⟨⟨4, 0, _, _, rfl, rfl, rfl, Try.underlying49, .inr ⟨rfl, _, _, _, _, inf49, rfl, rfl, rfl⟩⟩, rfl, trivial⟩, rfl, by simp [tupOf, V.pure, V.has, V.hasL]⟩
     ·have ht2 := am_rtimes_ok y N hb.2 hN h2
      refine Fn.intro (n := 43) ⟨Try.func26, rfl, rfl, rfl, rfl⟩ (by simp [V.pure, V.has, V.hasL]) (by simp) fun w0 out => ?_
      refine AW.seq ?_
      refine AW.region ?_
      refine AL.sm rfl (sm_box 2 rfl rfl rfl (by first | rfl | simp [S.clean, S.put, S.newObj, S.forget, V.has, V.hasL, junkIf, setL, V.cs, hasL_i, hasL_b, hasL_s, hasL_n, hasL_rep, hasL_flat, hasL_append, -List.map_set]) rfl) ?_
      refine AL.sm rfl (sm_alloc (l := [.d (.p (.int .i64 0)), .d (.p (.int .i64 0))]) 4 inf49 rfl (by first | rfl | simp [S.clean, S.put, S.newObj, S.forget, V.has, V.hasL, junkIf, setL, V.cs, hasL_i, hasL_b, hasL_s, hasL_n, hasL_rep, hasL_flat, hasL_append, -List.map_set]) rfl rfl) ?_
      refine AL.rp rfl rfl (rp_assign rfl rfl) ?_
      refine AL.nil ?_
      try simp only [thenS, S.put, S.newObj, setL, V.cs, List.length_cons, List.length_nil, List.take_succ_cons, List.take_zero, List.drop_succ_cons, List.drop_zero, List.drop_nil, List.nil_append, List.cons_append, List.append_nil, Nat.zero_add, Nat.reduceAdd, List.map_cons, List.map_nil, List.set_cons_zero, List.set_cons_succ, enum]
      refine AW.seq ?_
      refine AW.seq ?_
      refine AW.region ?_
      (first | (refine AL.rd rfl rfl (rd_loads_ref Try.underlying49 rfl inf49 rfl rfl rfl rfl rfl rfl) ?_) | (refine AL.rd rfl rfl (rd_loads_ad Try.underlying49 rfl inf49 rfl rfl rfl rfl) ?_))
      refine AL.call (post := ?pc39) rfl (sm_call (args := [_]) ?hc39 ⟨Try.func54, rfl, rfl, rfl, rfl⟩ rfl rfl rfl rfl) ?_
      case hc39 => exact hm1
      rintro _ rfl -
      try dsimp only
      refine AL.rp rfl rfl (rp_not rfl rfl) ?_
      refine AL.rp rfl rfl (rp_move rfl rfl) ?_
      (first | (refine AL.noV rfl rfl rfl rfl ?_) | (refine AL.noU rfl ⟨_, rfl, rfl⟩ rfl ?_) | (refine AL.rpy rfl rfl rfl (rp_move rfl rfl) ?_))
      (first | (refine AL.no rfl rfl rfl rfl ?_) | (refine AL.noU rfl ⟨_, rfl, rfl⟩ rfl ?_) | (refine AL.cally (post := ?pc40) rfl rfl (sm_call (args := [_, _, _]) ?hc40 ⟨Try.func55, rfl, rfl, rfl, rfl⟩ rfl rfl rfl rfl) ?_; (case hc40 => (first | (refine Fn.decT (am_In _ _ _) ?_; omega) | (refine Fn.decF (am_In _ _ _) ?_; omega) | exact am_In _ _ _)); rintro _ rfl -; try dsimp only))
      (first | (refine AL.noV rfl rfl rfl rfl ?_) | (refine AL.noU rfl ⟨_, rfl, rfl⟩ rfl ?_) | (refine AL.rpy rfl rfl rfl (rp_not rfl rfl) ?_))
      refine AL.rp rfl rfl (rp_pick rfl rfl rfl) ?_
      refine AL.nil ?_
      try simp only [thenS, S.put, S.newObj, setL, V.cs, List.length_cons, List.length_nil, List.take_succ_cons, List.take_zero, List.drop_succ_cons, List.drop_zero, List.drop_nil, List.nil_append, List.cons_append, List.append_nil, Nat.zero_add, Nat.reduceAdd, List.map_cons, List.map_nil, List.set_cons_zero, List.set_cons_succ]
      refine AW.condF rfl ?_
      refine AW.skip ?_
      try simp only [thenS]
      refine AW.seq ?_
      refine AW.region ?_
      (first | (refine AL.rp rfl rfl (rp_field_ref Try.underlying49 rfl rfl rfl inf3 (by decide) rfl) ?_) | (refine AL.rp rfl rfl (rp_field_ad Try.underlying49 rfl rfl rfl inf3 (by decide) rfl) ?_))
      (first | (refine AL.rd rfl rfl (rd_load_ref Try.underlying3 rfl rfl rfl rfl rfl rfl) ?_) | (refine AL.rd rfl rfl (rd_load_ad Try.underlying3 rfl rfl rfl rfl) ?_) | (refine AL.rd rfl rfl (rd_load_map Try.underlying3 rfl rfl rfl rfl rfl rfl (by assumption)) ?_) | (refine AL.rd rfl rfl (rd_load_flat Try.underlying3 rfl rfl rfl rfl rfl rfl (fun _ => rfl) (by assumption) rfl) ?_))
      refine AL.rp rfl rfl (rp_move rfl rfl) ?_
      refine AL.call (post := ?pc41) rfl (sm_call (args := [_, _]) ?hc41 ⟨Try.func56, rfl, rfl, rfl, rfl⟩ rfl rfl rfl rfl) ?_
      case hc41 => exact ht1
      rintro _ rfl -
      try dsimp only
      refine AL.rp rfl rfl (rp_move rfl rfl) ?_
      refine AL.rp rfl rfl (rp_extract rfl rfl rfl) ?_
      refine AL.rp rfl rfl (rp_extract rfl rfl rfl) ?_
      refine AL.rp rfl rfl (rp_assign rfl rfl) ?_
      refine AL.rp rfl rfl (rp_assign rfl rfl) ?_
      refine AL.nil ?_
      try simp only [thenS, S.put, S.newObj, setL, V.cs, List.length_cons, List.length_nil, List.take_succ_cons, List.take_zero, List.drop_succ_cons, List.drop_zero, List.drop_nil, List.nil_append, List.cons_append, List.append_nil, Nat.zero_add, Nat.reduceAdd, List.map_cons, List.map_nil, List.set_cons_zero, List.set_cons_succ]
      refine AW.seq ?_
      refine AW.region ?_
      (first | (refine AL.rp rfl rfl (rp_field_ref Try.underlying49 rfl rfl rfl inf3 (by decide) rfl) ?_) | (refine AL.rp rfl rfl (rp_field_ad Try.underlying49 rfl rfl rfl inf3 (by decide) rfl) ?_))
      (first | (refine AL.rd rfl rfl (rd_load_ref Try.underlying3 rfl rfl rfl rfl rfl rfl) ?_) | (refine AL.rd rfl rfl (rd_load_ad Try.underlying3 rfl rfl rfl rfl) ?_) | (refine AL.rd rfl rfl (rd_load_map Try.underlying3 rfl rfl rfl rfl rfl rfl (by assumption)) ?_) | (refine AL.rd rfl rfl (rd_load_flat Try.underlying3 rfl rfl rfl rfl rfl rfl (fun _ => rfl) (by assumption) rfl) ?_))
      refine AL.rp rfl rfl (rp_move rfl rfl) ?_
      refine AL.call (post := ?pc42) rfl (sm_call (args := [_, _]) ?hc42 ⟨Try.func56, rfl, rfl, rfl, rfl⟩ rfl rfl rfl rfl) ?_
      case hc42 => exact ht2
      rintro _ rfl -
      try dsimp only
      refine AL.rp rfl rfl (rp_move rfl rfl) ?_
      refine AL.rp rfl rfl (rp_extract rfl rfl rfl) ?_
      refine AL.rp rfl rfl (rp_extract rfl rfl rfl) ?_
      refine AL.rp rfl rfl (rp_assign rfl rfl) ?_
      refine AL.rp rfl rfl (rp_assign rfl rfl) ?_
      refine AL.nil ?_
      try simp only [thenS, S.put, S.newObj, setL, V.cs, List.length_cons, List.length_nil, List.take_succ_cons, List.take_zero, List.drop_succ_cons, List.drop_zero, List.drop_nil, List.nil_append, List.cons_append, List.append_nil, Nat.zero_add, Nat.reduceAdd, List.map_cons, List.map_nil, List.set_cons_zero, List.set_cons_succ]
      refine AW.seq ?_
      refine AW.seq ?_
      refine AW.region ?_
      refine AL.rp rfl rfl (rp_move rfl rfl) ?_
      refine AL.rp rfl rfl (rp_not rfl rfl) ?_
      refine AL.rp rfl rfl (rp_move rfl rfl) ?_
      (first | (refine AL.noV rfl rfl rfl rfl ?_) | (refine AL.noU rfl ⟨_, rfl, rfl⟩ rfl ?_) | (refine AL.rpy rfl rfl rfl (rp_move rfl rfl) ?_))
      (first | (refine AL.noV rfl rfl rfl rfl ?_) | (refine AL.noU rfl ⟨_, rfl, rfl⟩ rfl ?_) | (refine AL.rpy rfl rfl rfl (rp_not rfl rfl) ?_))
      refine AL.rp rfl rfl (rp_pick rfl rfl rfl) ?_
      refine AL.nil ?_
      try simp only [thenS, S.put]
      refine AW.condT rfl ?_
      refine AW.seq ?_
      refine AW.region ?_
      refine AL.rp rfl rfl (rp_build (vs := []) (zs := [.d (.p (.int .i64 0)), .d (.p (.int .i64 0))]) pl49 inf49 rfl rfl rfl rfl) ?_
      refine AL.st rfl (st_store_any inf49 rfl rfl rfl rfl rfl rfl rfl rfl (by first | decide | (simp; done) | (simp; omega)) rfl) ?_
      refine AL.rp rfl rfl (rp_assign rfl rfl) ?_
      refine AL.nil ?_
      try simp only [thenS, S.put, S.newObj, setL, V.cs, List.length_cons, List.length_nil, List.take_succ_cons, List.take_zero, List.drop_succ_cons, List.drop_zero, List.drop_nil, List.nil_append, List.cons_append, List.append_nil, Nat.zero_add, Nat.reduceAdd, List.map_cons, List.map_nil, List.set_cons_zero, List.set_cons_succ]
      refine AW.ret ?_
      exact ⟨[_, _], ⟨⟨4, 0, _, _, rfl, rfl, rfl, Try.underlying49, .inr ⟨rfl, _, _, _, _, inf49, rfl, rfl, rfl⟩⟩, rfl, trivial⟩, rfl, by simp [tupOf, V.pure, V.has, V.hasL]⟩
    ·have ht1 := am_rtimes_ok x N hb.1 hN h1
     by_cases h2 : 1000000000 < y * N
     ·have hE : powE x y N = 4 := by unfold powE; rw [if_neg (by simp [hm, hN]), if_neg hx, if_pos (.inr h2)]
      have hA : powA x y N = (0, 0) := by unfold powA; rw [if_pos (by simp [hE])]
      rw [hE, hA]
      have ht2 := am_rtimes_over y N hb.2 hN h2
      refine Fn.intro (n := 43) ⟨Try.func26, rfl, rfl, rfl, rfl⟩ (by simp [V.pure, V.has, V.hasL]) (by simp) fun w0 out => ?_
      refine AW.seq ?_
      refine AW.region ?_
      refine AL.sm rfl (sm_box 2 rfl rfl rfl (by first | rfl | simp [S.clean, S.put, S.newObj, S.forget, V.has, V.hasL, junkIf, setL, V.cs, hasL_i, hasL_b, hasL_s, hasL_n, hasL_rep, hasL_flat, hasL_append, -List.map_set]) rfl) ?_
      refine AL.sm rfl (sm_alloc (l := [.d (.p (.int .i64 0)), .d (.p (.int .i64 0))]) 4 inf49 rfl (by first | rfl | simp [S.clean, S.put, S.newObj, S.forget, V.has, V.hasL, junkIf, setL, V.cs, hasL_i, hasL_b, hasL_s, hasL_n, hasL_rep, hasL_flat, hasL_append, -List.map_set]) rfl rfl) ?_
      refine AL.rp rfl rfl (rp_assign rfl rfl) ?_
      refine AL.nil ?_
      try simp only [thenS, S.put, S.newObj, setL, V.cs, List.length_cons, List.length_nil, List.take_succ_cons, List.take_zero, List.drop_succ_cons, List.drop_zero, List.drop_nil, List.nil_append, List.cons_append, List.append_nil, Nat.zero_add, Nat.reduceAdd, List.map_cons, List.map_nil, List.set_cons_zero, List.set_cons_succ, enum]
      refine AW.seq ?_
      refine AW.seq ?_
      refine AW.region ?_
      (first | (refine AL.rd rfl rfl (rd_loads_ref Try.underlying49 rfl inf49 rfl rfl rfl rfl rfl rfl) ?_) | (refine AL.rd rfl rfl (rd_loads_ad Try.underlying49 rfl inf49 rfl rfl rfl rfl) ?_))
      refine AL.call (post := ?pc43) rfl (sm_call (args := [_]) ?hc43 ⟨Try.func54, rfl, rfl, rfl, rfl⟩ rfl rfl rfl rfl) ?_
      case hc43 => exact hm1
      rintro _ rfl -
      try dsimp only
      refine AL.rp rfl rfl (rp_not rfl rfl) ?_
      refine AL.rp rfl rfl (rp_move rfl rfl) ?_
      (first | (refine AL.noV rfl rfl rfl rfl ?_) | (refine AL.noU rfl ⟨_, rfl, rfl⟩ rfl ?_) | (refine AL.rpy rfl rfl rfl (rp_move rfl rfl) ?_))
      (first | (refine AL.no rfl rfl rfl rfl ?_) | (refine AL.noU rfl ⟨_, rfl, rfl⟩ rfl ?_) | (refine AL.cally (post := ?pc44) rfl rfl (sm_call (args := [_, _, _]) ?hc44 ⟨Try.func55, rfl, rfl, rfl, rfl⟩ rfl rfl rfl rfl) ?_; (case hc44 => (first | (refine Fn.decT (am_In _ _ _) ?_; omega) | (refine Fn.decF (am_In _ _ _) ?_; omega) | exact am_In _ _ _)); rintro _ rfl -; try dsimp only))
      (first | (refine AL.noV rfl rfl rfl rfl ?_) | (refine AL.noU rfl ⟨_, rfl, rfl⟩ rfl ?_) | (refine AL.rpy rfl rfl rfl (rp_not rfl rfl) ?_))
      refine AL.rp rfl rfl (rp_pick rfl rfl rfl) ?_
      refine AL.nil ?_
      try simp only [thenS, S.put, S.newObj, setL, V.cs, List.length_cons, List.length_nil, List.take_succ_cons, List.take_zero, List.drop_succ_cons, List.drop_zero, List.drop_nil, List.nil_append, List.cons_append, List.append_nil, Nat.zero_add, Nat.reduceAdd, List.map_cons, List.map_nil, List.set_cons_zero, List.set_cons_succ]
      refine AW.condF rfl ?_
      refine AW.skip ?_
      try simp only [thenS]
      refine AW.seq ?_
      refine AW.region ?_
      (first | (refine AL.rp rfl rfl (rp_field_ref Try.underlying49 rfl rfl rfl inf3 (by decide) rfl) ?_) | (refine AL.rp rfl rfl (rp_field_ad Try.underlying49 rfl rfl rfl inf3 (by decide) rfl) ?_))
      (first | (refine AL.rd rfl rfl (rd_load_ref Try.underlying3 rfl rfl rfl rfl rfl rfl) ?_) | (refine AL.rd rfl rfl (rd_load_ad Try.underlying3 rfl rfl rfl rfl) ?_) | (refine AL.rd rfl rfl (rd_load_map Try.underlying3 rfl rfl rfl rfl rfl rfl (by assumption)) ?_) | (refine AL.rd rfl rfl (rd_load_flat Try.underlying3 rfl rfl rfl rfl rfl rfl (fun _ => rfl) (by assumption) rfl) ?_))
      refine AL.rp rfl rfl (rp_move rfl rfl) ?_
      refine AL.call (post := ?pc45) rfl (sm_call (args := [_, _]) ?hc45 ⟨Try.func56, rfl, rfl, rfl, rfl⟩ rfl rfl rfl rfl) ?_
      case hc45 => exact ht1
      rintro _ rfl -
      try dsimp only
      refine AL.rp rfl rfl (rp_move rfl rfl) ?_
      refine AL.rp rfl rfl (rp_extract rfl rfl rfl) ?_
      refine AL.rp rfl rfl (rp_extract rfl rfl rfl) ?_
      refine AL.rp rfl rfl (rp_assign rfl rfl) ?_
      refine AL.rp rfl rfl (rp_assign rfl rfl) ?_
      refine AL.nil ?_
      try simp only [thenS, S.put, S.newObj, setL, V.cs, List.length_cons, List.length_nil, List.take_succ_cons, List.take_zero, List.drop_succ_cons, List.drop_zero, List.drop_nil, List.nil_append, List.cons_append, List.append_nil, Nat.zero_add, Nat.reduceAdd, List.map_cons, List.map_nil, List.set_cons_zero, List.set_cons_succ]
      refine AW.seq ?_
      refine AW.region ?_
      (first | (refine AL.rp rfl rfl (rp_field_ref Try.underlying49 rfl rfl rfl inf3 (by decide) rfl) ?_) | (refine AL.rp rfl rfl (rp_field_ad Try.underlying49 rfl rfl rfl inf3 (by decide) rfl) ?_))
      (first | (refine AL.rd rfl rfl (rd_load_ref Try.underlying3 rfl rfl rfl rfl rfl rfl) ?_) | (refine AL.rd rfl rfl (rd_load_ad Try.underlying3 rfl rfl rfl rfl) ?_) | (refine AL.rd rfl rfl (rd_load_map Try.underlying3 rfl rfl rfl rfl rfl rfl (by assumption)) ?_) | (refine AL.rd rfl rfl (rd_load_flat Try.underlying3 rfl rfl rfl rfl rfl rfl (fun _ => rfl) (by assumption) rfl) ?_))
      refine AL.rp rfl rfl (rp_move rfl rfl) ?_
      refine AL.call (post := ?pc46) rfl (sm_call (args := [_, _]) ?hc46 ⟨Try.func56, rfl, rfl, rfl, rfl⟩ rfl rfl rfl rfl) ?_
      case hc46 => exact ht2
      rintro _ rfl -
      try dsimp only
      refine AL.rp rfl rfl (rp_move rfl rfl) ?_
      refine AL.rp rfl rfl (rp_extract rfl rfl rfl) ?_
      refine AL.rp rfl rfl (rp_extract rfl rfl rfl) ?_
      refine AL.rp rfl rfl (rp_assign rfl rfl) ?_
      refine AL.rp rfl rfl (rp_assign rfl rfl) ?_
      refine AL.nil ?_
      try simp only [thenS, S.put, S.newObj, setL, V.cs, List.length_cons, List.length_nil, List.take_succ_cons, List.take_zero, List.drop_succ_cons, List.drop_zero, List.drop_nil, List.nil_append, List.cons_append, List.append_nil, Nat.zero_add, Nat.reduceAdd, List.map_cons, List.map_nil, List.set_cons_zero, List.set_cons_succ]
      refine AW.seq ?_
      refine AW.seq ?_
      refine AW.region ?_
      refine AL.rp rfl rfl (rp_move rfl rfl) ?_
      refine AL.rp rfl rfl (rp_not rfl rfl) ?_
      refine AL.rp rfl rfl (rp_move rfl rfl) ?_
      (first | (refine AL.noV rfl rfl rfl rfl ?_) | (refine AL.noU rfl ⟨_, rfl, rfl⟩ rfl ?_) | (refine AL.rpy rfl rfl rfl (rp_move rfl rfl) ?_))
      (first | (refine AL.noV rfl rfl rfl rfl ?_) | (refine AL.noU rfl ⟨_, rfl, rfl⟩ rfl ?_) | (refine AL.rpy rfl rfl rfl (rp_not rfl rfl) ?_))
      refine AL.rp rfl rfl (rp_pick rfl rfl rfl) ?_
      refine AL.nil ?_
      try simp only [thenS, S.put]
      refine AW.condT rfl ?_
      refine AW.seq ?_
      refine AW.region ?_
      refine AL.rp rfl rfl (rp_build (vs := []) (zs := [.d (.p (.int .i64 0)), .d (.p (.int .i64 0))]) pl49 inf49 rfl rfl rfl rfl) ?_
      refine AL.st rfl (st_store_any inf49 rfl rfl rfl rfl rfl rfl rfl rfl (by first | decide | (simp; done) | (simp; omega)) rfl) ?_
      refine AL.rp rfl rfl (rp_assign rfl rfl) ?_
      refine AL.nil ?_
      try simp only [thenS, S.put, S.newObj, setL, V.cs, List.length_cons, List.length_nil, List.take_succ_cons, List.take_zero, List.drop_succ_cons, List.drop_zero, List.drop_nil, List.nil_append, List.cons_append, List.append_nil, Nat.zero_add, Nat.reduceAdd, List.map_cons, List.map_nil, List.set_cons_zero, List.set_cons_succ]
      refine AW.ret ?_
      exact ⟨[_, _], ⟨⟨4, 0, _, _, rfl, rfl, rfl, Try.underlying49, .inr ⟨rfl, _, _, _, _, inf49, rfl, rfl, rfl⟩⟩, rfl, trivial⟩, rfl, by simp [tupOf, V.pure, V.has, V.hasL]⟩
     ·have hE : powE x y N = 0 := by unfold powE; rw [if_neg (by simp [hm, hN]), if_neg hx, if_neg (by omega)]
      have hA : powA x y N = (x * N, y * N) := by unfold powA; rw [if_neg (by simp [hE]), if_neg hx]
      rw [hE, hA]
      have ht2 := am_rtimes_ok y N hb.2 hN h2
      refine Fn.intro (n := 43) ⟨Try.func26, rfl, rfl, rfl, rfl⟩ (by simp [V.pure, V.has, V.hasL]) (by simp) fun w0 out => ?_
      refine AW.seq ?_
      refine AW.region ?_
      refine AL.sm rfl (sm_box 2 rfl rfl rfl (by first | rfl | simp [S.clean, S.put, S.newObj, S.forget, V.has, V.hasL, junkIf, setL, V.cs, hasL_i, hasL_b, hasL_s, hasL_n, hasL_rep, hasL_flat, hasL_append, -List.map_set]) rfl) ?_
      refine AL.sm rfl (sm_alloc (l := [.d (.p (.int .i64 0)), .d (.p (.int .i64 0))]) 4 inf49 rfl (by first | rfl | simp [S.clean, S.put, S.newObj, S.forget, V.has, V.hasL, junkIf, setL, V.cs, hasL_i, hasL_b, hasL_s, hasL_n, hasL_rep, hasL_flat, hasL_append, -List.map_set]) rfl rfl) ?_
      refine AL.rp rfl rfl (rp_assign rfl rfl) ?_
      refine AL.nil ?_
      try simp only [thenS, S.put, S.newObj, setL, V.cs, List.length_cons, List.length_nil, List.take_succ_cons, List.take_zero, List.drop_succ_cons, List.drop_zero, List.drop_nil, List.nil_append, List.cons_append, List.append_nil, Nat.zero_add, Nat.reduceAdd, List.map_cons, List.map_nil, List.set_cons_zero, List.set_cons_succ, enum]
      refine AW.seq ?_
      refine AW.seq ?_
      refine AW.region ?_
      (first | (refine AL.rd rfl rfl (rd_loads_ref Try.underlying49 rfl inf49 rfl rfl rfl rfl rfl rfl) ?_) | (refine AL.rd rfl rfl (rd_loads_ad Try.underlying49 rfl inf49 rfl rfl rfl rfl) ?_))
      refine AL.call (post := ?pc47) rfl (sm_call (args := [_]) ?hc47 ⟨Try.func54, rfl, rfl, rfl, rfl⟩ rfl rfl rfl rfl) ?_
      case hc47 => exact hm1
      rintro _ rfl -
      try dsimp only
      refine AL.rp rfl rfl (rp_not rfl rfl) ?_
      refine AL.rp rfl rfl (rp_move rfl rfl) ?_
      (first | (refine AL.noV rfl rfl rfl rfl ?_) | (refine AL.noU rfl ⟨_, rfl, rfl⟩ rfl ?_) | (refine AL.rpy rfl rfl rfl (rp_move rfl rfl) ?_))
      (first | (refine AL.no rfl rfl rfl rfl ?_) | (refine AL.noU rfl ⟨_, rfl, rfl⟩ rfl ?_) | (refine AL.cally (post := ?pc48) rfl rfl (sm_call (args := [_, _, _]) ?hc48 ⟨Try.func55, rfl, rfl, rfl, rfl⟩ rfl rfl rfl rfl) ?_; (case hc48 => (first | (refine Fn.decT (am_In _ _ _) ?_; omega) | (refine Fn.decF (am_In _ _ _) ?_; omega) | exact am_In _ _ _)); rintro _ rfl -; try dsimp only))
      (first | (refine AL.noV rfl rfl rfl rfl ?_) | (refine AL.noU rfl ⟨_, rfl, rfl⟩ rfl ?_) | (refine AL.rpy rfl rfl rfl (rp_not rfl rfl) ?_))
      refine AL.rp rfl rfl (rp_pick rfl rfl rfl) ?_
      refine AL.nil ?_
      try simp only [thenS, S.put, S.newObj, setL, V.cs, List.length_cons, List.length_nil, List.take_succ_cons, List.take_zero, List.drop_succ_cons, List.drop_zero, List.drop_nil, List.nil_append, List.cons_append, List.append_nil, Nat.zero_add, Nat.reduceAdd, List.map_cons, List.map_nil, List.set_cons_zero, List.set_cons_succ]
      refine AW.condF rfl ?_
      refine AW.skip ?_
      try simp only [thenS]
      refine AW.seq ?_
      refine AW.region ?_
      (first | (refine AL.rp rfl rfl (rp_field_ref Try.underlying49 rfl rfl rfl inf3 (by decide) rfl) ?_) | (refine AL.rp rfl rfl (rp_field_ad Try.underlying49 rfl rfl rfl inf3 (by decide) rfl) ?_))
      (first | (refine AL.rd rfl rfl (rd_load_ref Try.underlying3 rfl rfl rfl rfl rfl rfl) ?_) | (refine AL.rd rfl rfl (rd_load_ad Try.underlying3 rfl rfl rfl rfl) ?_) | (refine AL.rd rfl rfl (rd_load_map Try.underlying3 rfl rfl rfl rfl rfl rfl (by assumption)) ?_) | (refine AL.rd rfl rfl (rd_load_flat Try.underlying3 rfl rfl rfl rfl rfl rfl (fun _ => rfl) (by assumption) rfl) ?_))
      refine AL.rp rfl rfl (rp_move rfl rfl) ?_
      refine AL.call (post := ?pc49) rfl (sm_call (args := [_, _]) ?hc49 ⟨Try.func56, rfl, rfl, rfl, rfl⟩ rfl rfl rfl rfl) ?_
      case hc49 => exact ht1
      rintro _ rfl -
      try dsimp only
      refine AL.rp rfl rfl (rp_move rfl rfl) ?_
      refine AL.rp rfl rfl (rp_extract rfl rfl rfl) ?_
      refine AL.rp rfl rfl (rp_extract rfl rfl rfl) ?_
      refine AL.rp rfl rfl (rp_assign rfl rfl) ?_
      refine AL.rp rfl rfl (rp_assign rfl rfl) ?_
      refine AL.nil ?_
      try simp only [thenS, S.put, S.newObj, setL, V.cs, List.length_cons, List.length_nil, List.take_succ_cons, List.take_zero, List.drop_succ_cons, List.drop_zero, List.drop_nil, List.nil_append, List.cons_append, List.append_nil, Nat.zero_add, Nat.reduceAdd, List.map_cons, List.map_nil, List.set_cons_zero, List.set_cons_succ]
      refine AW.seq ?_
      refine AW.region ?_
      (first | (refine AL.rp rfl rfl (rp_field_ref Try.underlying49 rfl rfl rfl inf3 (by decide) rfl) ?_) | (refine AL.rp rfl rfl (rp_field_ad Try.underlying49 rfl rfl rfl inf3 (by decide) rfl) ?_))
      (first | (refine AL.rd rfl rfl (rd_load_ref Try.underlying3 rfl rfl rfl rfl rfl rfl) ?_) | (refine AL.rd rfl rfl (rd_load_ad Try.underlying3 rfl rfl rfl rfl) ?_) | (refine AL.rd rfl rfl (rd_load_map Try.underlying3 rfl rfl rfl rfl rfl rfl (by assumption)) ?_) | (refine AL.rd rfl rfl (rd_load_flat Try.underlying3 rfl rfl rfl rfl rfl rfl (fun _ => rfl) (by assumption) rfl) ?_))
      refine AL.rp rfl rfl (rp_move rfl rfl) ?_
      refine AL.call (post := ?pc50) rfl (sm_call (args := [_, _]) ?hc50 ⟨Try.func56, rfl, rfl, rfl, rfl⟩ rfl rfl rfl rfl) ?_
      case hc50 => exact ht2
      rintro _ rfl -
      try dsimp only
      refine AL.rp rfl rfl (rp_move rfl rfl) ?_
      refine AL.rp rfl rfl (rp_extract rfl rfl rfl) ?_
      refine AL.rp rfl rfl (rp_extract rfl rfl rfl) ?_
      refine AL.rp rfl rfl (rp_assign rfl rfl) ?_
      refine AL.rp rfl rfl (rp_assign rfl rfl) ?_
      refine AL.nil ?_
      try simp only [thenS, S.put, S.newObj, setL, V.cs, List.length_cons, List.length_nil, List.take_succ_cons, List.take_zero, List.drop_succ_cons, List.drop_zero, List.drop_nil, List.nil_append, List.cons_append, List.append_nil, Nat.zero_add, Nat.reduceAdd, List.map_cons, List.map_nil, List.set_cons_zero, List.set_cons_succ]
      refine AW.seq ?_
      refine AW.seq ?_
      refine AW.region ?_
      refine AL.rp rfl rfl (rp_move rfl rfl) ?_
      refine AL.rp rfl rfl (rp_not rfl rfl) ?_
      refine AL.rp rfl rfl (rp_move rfl rfl) ?_
      (first | (refine AL.noV rfl rfl rfl rfl ?_) | (refine AL.noU rfl ⟨_, rfl, rfl⟩ rfl ?_) | (refine AL.rpy rfl rfl rfl (rp_move rfl rfl) ?_))
      (first | (refine AL.noV rfl rfl rfl rfl ?_) | (refine AL.noU rfl ⟨_, rfl, rfl⟩ rfl ?_) | (refine AL.rpy rfl rfl rfl (rp_not rfl rfl) ?_))
      refine AL.rp rfl rfl (rp_pick rfl rfl rfl) ?_
      refine AL.nil ?_
      try simp only [thenS, S.put]
      refine AW.condF rfl ?_
      refine AW.skip ?_
      try simp only [thenS]
      refine AW.seq ?_
      refine AW.region ?_
      refine AL.rp rfl rfl (rp_move rfl rfl) ?_
      refine AL.rp rfl rfl (rp_move rfl rfl) ?_
      refine AL.rp rfl rfl (rp_build (vs := [(0, _), (1, _)]) (zs := [.d (.p (.int .i64 0)), .d (.p (.int .i64 0))]) pl49 inf49 rfl rfl rfl rfl) ?_
      refine AL.st rfl (st_store_any inf49 rfl rfl rfl rfl rfl rfl rfl rfl (by first | decide | (simp; done) | (simp; omega)) rfl) ?_
      refine AL.rp rfl rfl (rp_assign rfl rfl) ?_
      refine AL.nil ?_
      try simp only [thenS, S.put, S.newObj, setL, V.cs, List.length_cons, List.length_nil, List.take_succ_cons, List.take_zero, List.drop_succ_cons, List.drop_zero, List.drop_nil, List.nil_append, List.cons_append, List.append_nil, Nat.zero_add, Nat.reduceAdd, List.map_cons, List.map_nil, List.set_cons_zero, List.set_cons_succ]
      refine AW.ret ?_
      exact ⟨[_, _], ⟨⟨4, 0, _, _, rfl, rfl, rfl, Try.underlying49, .inr ⟨rfl, _, _, _, _, inf49, rfl, rfl, rfl⟩⟩, rfl, trivial⟩, rfl, by simp [tupOf, V.pure, V.has, V.hasL]⟩
  ·have hE : powE x y N = 2 := by unfold powE; rw [if_pos (.inr hN)]
   have hA : powA x y N = (0, 0) := by unfold powA; rw [if_pos (by simp [hE])]
   rw [hE, hA]
   refine Fn.intro (n := 43) ⟨Try.func26, rfl, rfl, rfl, rfl⟩ (by simp [V.pure, V.has, V.hasL]) (by simp) fun w0 out => ?_
   refine AW.seq ?_
   refine AW.region ?_
   refine AL.sm rfl (sm_box 2 rfl rfl rfl (by first | rfl | simp [S.clean, S.put, S.newObj, S.forget, V.has, V.hasL, junkIf, setL, V.cs, hasL_i, hasL_b, hasL_s, hasL_n, hasL_rep, hasL_flat, hasL_append, -List.map_set]) rfl) ?_
   refine AL.sm rfl (sm_alloc (l := [.d (.p (.int .i64 0)), .d (.p (.int .i64 0))]) 4 inf49 rfl (by first | rfl | simp [S.clean, S.put, S.newObj, S.forget, V.has, V.hasL, junkIf, setL, V.cs, hasL_i, hasL_b, hasL_s, hasL_n, hasL_rep, hasL_flat, hasL_append, -List.map_set]) rfl rfl) ?_
   refine AL.rp rfl rfl (rp_assign rfl rfl) ?_
   refine AL.nil ?_
   try simp only [thenS, S.put, S.newObj, setL, V.cs, List.length_cons, List.length_nil, List.take_succ_cons, List.take_zero, List.drop_succ_cons, List.drop_zero, List.drop_nil, List.nil_append, List.cons_append, List.append_nil, Nat.zero_add, Nat.reduceAdd, List.map_cons, List.map_nil, List.set_cons_zero, List.set_cons_succ, enum]
   refine AW.seq ?_
   refine AW.seq ?_
   refine AW.region ?_
   (first | (refine AL.rd rfl rfl (rd_loads_ref Try.underlying49 rfl inf49 rfl rfl rfl rfl rfl rfl) ?_) | (refine AL.rd rfl rfl (rd_loads_ad Try.underlying49 rfl inf49 rfl rfl rfl rfl) ?_))
   refine AL.call (post := ?pc51) rfl (sm_call (args := [_]) ?hc51 ⟨Try.func54, rfl, rfl, rfl, rfl⟩ rfl rfl rfl rfl) ?_
   case hc51 => exact hm1
   rintro _ rfl -
   try dsimp only
   refine AL.rp rfl rfl (rp_not rfl rfl) ?_
   refine AL.rp rfl rfl (rp_move rfl rfl) ?_
   (first | (refine AL.noV rfl rfl rfl rfl ?_) | (refine AL.noU rfl ⟨_, rfl, rfl⟩ rfl ?_) | (refine AL.rpy rfl rfl rfl (rp_move rfl rfl) ?_))
   (first | (refine AL.no rfl rfl rfl rfl ?_) | (refine AL.noU rfl ⟨_, rfl, rfl⟩ rfl ?_) | (refine AL.cally (post := ?pc52) rfl rfl (sm_call (args := [_, _, _]) ?hc52 ⟨Try.func55, rfl, rfl, rfl, rfl⟩ rfl rfl rfl rfl) ?_; (case hc52 => (first | (refine Fn.decT (am_In _ _ _) ?_; omega) | (refine Fn.decF (am_In _ _ _) ?_; omega) | exact am_In _ _ _)); rintro _ rfl -; try dsimp only))
   (first | (refine AL.noV rfl rfl rfl rfl ?_) | (refine AL.noU rfl ⟨_, rfl, rfl⟩ rfl ?_) | (refine AL.rpy rfl rfl rfl (rp_not rfl rfl) ?_))
   refine AL.rp rfl rfl (rp_pick rfl rfl rfl) ?_
   refine AL.nil ?_
   try simp only [thenS, S.put, S.newObj, setL, V.cs, List.length_cons, List.length_nil, List.take_succ_cons, List.take_zero, List.drop_succ_cons, List.drop_zero, List.drop_nil, List.nil_append, List.cons_append, List.append_nil, Nat.zero_add, Nat.reduceAdd, List.map_cons, List.map_nil, List.set_cons_zero, List.set_cons_succ]
   refine AW.condT rfl ?_
   refine AW.seq ?_
   refine AW.region ?_
   refine AL.rp rfl rfl (rp_build (vs := []) (zs := [.d (.p (.int .i64 0)), .d (.p (.int .i64 0))]) pl49 inf49 rfl rfl rfl rfl) ?_
   refine AL.st rfl (st_store_any inf49 rfl rfl rfl rfl rfl rfl rfl rfl (by first | decide | (simp; done) | (simp; omega)) rfl) ?_
   refine AL.rp rfl rfl (rp_assign rfl rfl) ?_
   refine AL.nil ?_
   try simp only [thenS, S.put, S.newObj, setL, V.cs, List.length_cons, List.length_nil, List.take_succ_cons, List.take_zero, List.drop_succ_cons, List.drop_zero, List.drop_nil, List.nil_append, List.cons_append, List.append_nil, Nat.zero_add, Nat.reduceAdd, List.map_cons, List.map_nil, List.set_cons_zero, List.set_cons_succ]
   refine AW.ret ?_
   exact ⟨[_, _], ⟨⟨4, 0, _, _, rfl, rfl, rfl, Try.underlying49, .inr ⟨rfl, _, _, _, _, inf49, rfl, rfl, rfl⟩⟩, rfl, trivial⟩, rfl, by simp [tupOf, V.pure, V.has, V.hasL]⟩
 ·have hE : powE x y N = 2 := by unfold powE; rw [if_pos (.inl hm)]
  have hA : powA x y N = (0, 0) := by unfold powA; rw [if_pos (by simp [hE])]
  rw [hE, hA]
  have hm1 := Fn.decF (am_TwinMay x y) hm
  refine Fn.intro (n := 43) ⟨Try.func26, rfl, rfl, rfl, rfl⟩ (by simp [V.pure, V.has, V.hasL]) (by simp) fun w0 out => ?_
  refine AW.seq ?_
  refine AW.region ?_
  refine AL.sm rfl (sm_box 2 rfl rfl rfl (by first | rfl | simp [S.clean, S.put, S.newObj, S.forget, V.has, V.hasL, junkIf, setL, V.cs, hasL_i, hasL_b, hasL_s, hasL_n, hasL_rep, hasL_flat, hasL_append, -List.map_set]) rfl) ?_
  refine AL.sm rfl (sm_alloc (l := [.d (.p (.int .i64 0)), .d (.p (.int .i64 0))]) 4 inf49 rfl (by first | rfl | simp [S.clean, S.put, S.newObj, S.forget, V.has, V.hasL, junkIf, setL, V.cs, hasL_i, hasL_b, hasL_s, hasL_n, hasL_rep, hasL_flat, hasL_append, -List.map_set]) rfl rfl) ?_
  refine AL.rp rfl rfl (rp_assign rfl rfl) ?_
  refine AL.nil ?_
  try simp only [thenS, S.put, S.newObj, setL, V.cs, List.length_cons, List.length_nil, List.take_succ_cons, List.take_zero, List.drop_succ_cons, List.drop_zero, List.drop_nil, List.nil_append, List.cons_append, List.append_nil, Nat.zero_add, Nat.reduceAdd, List.map_cons, List.map_nil, List.set_cons_zero, List.set_cons_succ, enum]
  refine AW.seq ?_
  refine AW.seq ?_
  refine AW.region ?_
  (first | (refine AL.rd rfl rfl (rd_loads_ref Try.underlying49 rfl inf49 rfl rfl rfl rfl rfl rfl) ?_) | (refine AL.rd rfl rfl (rd_loads_ad Try.underlying49 rfl inf49 rfl rfl rfl rfl) ?_))
  refine AL.call (post := ?pc53) rfl (sm_call (args := [_]) ?hc53 ⟨Try.func54, rfl, rfl, rfl, rfl⟩ rfl rfl rfl rfl) ?_
  case hc53 => exact hm1
  rintro _ rfl -
  try dsimp only
  refine AL.rp rfl rfl (rp_not rfl rfl) ?_
  refine AL.rp rfl rfl (rp_move rfl rfl) ?_
  (first | (refine AL.noV rfl rfl rfl rfl ?_) | (refine AL.noU rfl ⟨_, rfl, rfl⟩ rfl ?_) | (refine AL.rpy rfl rfl rfl (rp_move rfl rfl) ?_))
  (first | (refine AL.no rfl rfl rfl rfl ?_) | (refine AL.noU rfl ⟨_, rfl, rfl⟩ rfl ?_) | (refine AL.cally (post := ?pc54) rfl rfl (sm_call (args := [_, _, _]) ?hc54 ⟨Try.func55, rfl, rfl, rfl, rfl⟩ rfl rfl rfl rfl) ?_; (case hc54 => (first | (refine Fn.decT (am_In _ _ _) ?_; omega) | (refine Fn.decF (am_In _ _ _) ?_; omega) | exact am_In _ _ _)); rintro _ rfl -; try dsimp only))
  (first | (refine AL.noV rfl rfl rfl rfl ?_) | (refine AL.noU rfl ⟨_, rfl, rfl⟩ rfl ?_) | (refine AL.rpy rfl rfl rfl (rp_not rfl rfl) ?_))
  refine AL.rp rfl rfl (rp_pick rfl rfl rfl) ?_
  refine AL.nil ?_
  try simp only [thenS, S.put, S.newObj, setL, V.cs, List.length_cons, List.length_nil, List.take_succ_cons, List.take_zero, List.drop_succ_cons, List.drop_zero, List.drop_nil, List.nil_append, List.cons_append, List.append_nil, Nat.zero_add, Nat.reduceAdd, List.map_cons, List.map_nil, List.set_cons_zero, List.set_cons_succ]
  refine AW.condT rfl ?_
  refine AW.seq ?_
  refine AW.region ?_
  refine AL.rp rfl rfl (rp_build (vs := []) (zs := [.d (.p (.int .i64 0)), .d (.p (.int .i64 0))]) pl49 inf49 rfl rfl rfl rfl) ?_
  refine AL.st rfl (st_store_any inf49 rfl rfl rfl rfl rfl rfl rfl rfl (by first | decide | (simp; done) | (simp; omega)) rfl) ?_
  refine AL.rp rfl rfl (rp_assign rfl rfl) ?_
  refine AL.nil ?_
  try simp only [thenS, S.put, S.newObj, setL, V.cs, List.length_cons, List.length_nil, List.take_succ_cons, List.take_zero, List.drop_succ_cons, List.drop_zero, List.drop_nil, List.nil_append, List.cons_append, List.append_nil, Nat.zero_add, Nat.reduceAdd, List.map_cons, List.map_nil, List.set_cons_zero, List.set_cons_succ]
  refine AW.ret ?_
  exact ⟨[_, _], ⟨⟨4, 0, _, _, rfl, rfl, rfl, Try.underlying49, .inr ⟨rfl, _, _, _, _, inf49, rfl, rfl, rfl⟩⟩, rfl, trivial⟩, rfl, by simp [tupOf, V.pure, V.has, V.hasL]⟩
end Go.Proofs.Yteibfmaddnnkaaa
