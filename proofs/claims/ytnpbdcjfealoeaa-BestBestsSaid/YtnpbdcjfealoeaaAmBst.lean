-- %hmode
/- best: what an end costs, and how many arcs it is away; the twins that it reckons with. -/
import Derived.Test.YtnpbdcjfealoeaaAmTwin
import Derived.Test.YtnpbdcjfealoeaaAmY
import Derived.Test.YtnpbdcjfealoeaaAmJ
import Derived.Test.YtnpbdcjfealoeaaAmEnds
import Derived.Test.YtnpbdcjfealoeaaBst
namespace Go.Proofs.Ytnpbdcjfealoeaa
open Go.RowKit
set_option linter.unusedSimpArgs false
set_option linter.unusedVariables false
set_option maxRecDepth 100000

theorem am_TwLess (a b c d : Int) : Fn Try.prog 105 [.agg [.i a, .i b], .agg [.i c, .i d]] (fun v => v = .b (decide (a < c ∨ a = c ∧ b < d))) := by
 refine Fn.intro (n := 24) ⟨Try.func105, rfl, rfl, rfl, rfl⟩ (by simp [V.pure, V.has, V.hasL]) (by simp) fun w0 out => ?_
 by_cases h1 : a < c
 ·skip
  refine AW.seq ?_
  refine AW.region ?_
  refine AL.sm rfl (sm_box 2 rfl rfl rfl rfl rfl) ?_
  refine AL.sm rfl (sm_box 3 rfl rfl rfl rfl rfl) ?_
  refine AL.rp rfl rfl (rp_assign rfl rfl) ?_
  refine AL.nil ?_
  try simp only [thenS, S.put, S.newObj, setL, V.cs, List.length_cons, List.length_nil, List.take_succ_cons, List.take_zero, List.drop_succ_cons, List.drop_zero, List.drop_nil, List.nil_append, List.cons_append, List.append_nil, Nat.zero_add, Nat.reduceAdd, List.map_cons, List.map_nil, List.set_cons_zero, List.set_cons_succ, enum]
  refine AW.seq ?_
  refine AW.region ?_
  refine AL.rp rfl rfl (rp_field_ref Try.underlying95 rfl rfl rfl inf3 (by decide) rfl) ?_
  refine AL.rd rfl rfl (rd_load_ref Try.underlying3 rfl rfl rfl rfl rfl rfl) ?_
  refine AL.rp rfl rfl (rp_field_ref Try.underlying95 rfl rfl rfl inf3 (by decide) rfl) ?_
  refine AL.rd rfl rfl (rd_load_ref Try.underlying3 rfl rfl rfl rfl rfl rfl) ?_
  (refine AL.rp rfl rfl (rp_lssT rfl rfl rfl (by first | assumption | omega | (dsimp only; omega))) ?_)
  refine AL.rp rfl rfl (rp_move rfl rfl) ?_
  refine AL.noV rfl rfl rfl rfl ?_
  refine AL.noV rfl rfl rfl rfl ?_
  refine AL.noV rfl rfl rfl rfl ?_
  refine AL.noV rfl rfl rfl rfl ?_
  refine AL.noV rfl rfl rfl rfl ?_
  refine AL.noV rfl rfl rfl rfl ?_
  refine AL.noU rfl ⟨_, rfl, rfl⟩ rfl ?_
  refine AL.noU rfl ⟨_, rfl, rfl⟩ rfl ?_
  refine AL.noU rfl ⟨_, rfl, rfl⟩ rfl ?_
  refine AL.noU rfl ⟨_, rfl, rfl⟩ rfl ?_
  refine AL.noU rfl ⟨_, rfl, rfl⟩ rfl ?_
  refine AL.noV rfl rfl rfl rfl ?_
  refine AL.rp rfl rfl (rp_pick rfl rfl rfl) ?_
  refine AL.rp rfl rfl (rp_assign rfl rfl) ?_
  refine AL.nil ?_
  try simp only [thenS, S.put]
  refine AW.ret ?_
  exact ⟨[_], ⟨rfl, trivial⟩, by simp [tupOf, h1], by simp [tupOf, V.pure, V.has]⟩
 ·by_cases h2 : a = c
  ·subst h2
   refine AW.seq ?_
   refine AW.region ?_
   refine AL.sm rfl (sm_box 2 rfl rfl rfl rfl rfl) ?_
   refine AL.sm rfl (sm_box 3 rfl rfl rfl rfl rfl) ?_
   refine AL.rp rfl rfl (rp_assign rfl rfl) ?_
   refine AL.nil ?_
   try simp only [thenS, S.put, S.newObj, setL, V.cs, List.length_cons, List.length_nil, List.take_succ_cons, List.take_zero, List.drop_succ_cons, List.drop_zero, List.drop_nil, List.nil_append, List.cons_append, List.append_nil, Nat.zero_add, Nat.reduceAdd, List.map_cons, List.map_nil, List.set_cons_zero, List.set_cons_succ, enum]
   refine AW.seq ?_
   refine AW.region ?_
   refine AL.rp rfl rfl (rp_field_ref Try.underlying95 rfl rfl rfl inf3 (by decide) rfl) ?_
   refine AL.rd rfl rfl (rd_load_ref Try.underlying3 rfl rfl rfl rfl rfl rfl) ?_
   refine AL.rp rfl rfl (rp_field_ref Try.underlying95 rfl rfl rfl inf3 (by decide) rfl) ?_
   refine AL.rd rfl rfl (rd_load_ref Try.underlying3 rfl rfl rfl rfl rfl rfl) ?_
   (refine AL.rp rfl rfl (rp_lssF rfl rfl rfl (by first | assumption | omega | (dsimp only; omega))) ?_)
   refine AL.rp rfl rfl (rp_move rfl rfl) ?_
   refine AL.rpy rfl rfl rfl (rp_field_ref Try.underlying95 rfl rfl rfl inf3 (by decide) rfl) ?_
   refine AL.rdy rfl rfl rfl (rd_load_ref Try.underlying3 rfl rfl rfl rfl rfl rfl) ?_
   refine AL.rpy rfl rfl rfl (rp_field_ref Try.underlying95 rfl rfl rfl inf3 (by decide) rfl) ?_
   refine AL.rdy rfl rfl rfl (rd_load_ref Try.underlying3 rfl rfl rfl rfl rfl rfl) ?_
   (refine AL.rpy rfl rfl rfl (rp_eqlT rfl rfl rfl (by first | assumption | omega | (dsimp only; omega))) ?_)
   refine AL.rpy rfl rfl rfl (rp_move rfl rfl) ?_
   refine AL.rpy rfl rfl rfl (rp_field_ref Try.underlying95 rfl rfl rfl inf3 (by decide) rfl) ?_
   refine AL.rdy rfl rfl rfl (rd_load_ref Try.underlying3 rfl rfl rfl rfl rfl rfl) ?_
   refine AL.rpy rfl rfl rfl (rp_field_ref Try.underlying95 rfl rfl rfl inf3 (by decide) rfl) ?_
   refine AL.rdy rfl rfl rfl (rd_load_ref Try.underlying3 rfl rfl rfl rfl rfl rfl) ?_
   refine AL.rpy rfl rfl rfl (rp_lss rfl rfl rfl) ?_
   refine AL.rpy rfl rfl rfl (rp_pick rfl rfl rfl) ?_
   refine AL.rp rfl rfl (rp_pick rfl rfl rfl) ?_
   refine AL.rp rfl rfl (rp_assign rfl rfl) ?_
   refine AL.nil ?_
   try simp only [thenS, S.put]
   refine AW.ret ?_
   exact ⟨[_], ⟨rfl, trivial⟩, by simp [tupOf], by simp [tupOf, V.pure, V.has]⟩
  ·skip
   refine AW.seq ?_
   refine AW.region ?_
   refine AL.sm rfl (sm_box 2 rfl rfl rfl rfl rfl) ?_
   refine AL.sm rfl (sm_box 3 rfl rfl rfl rfl rfl) ?_
   refine AL.rp rfl rfl (rp_assign rfl rfl) ?_
   refine AL.nil ?_
   try simp only [thenS, S.put, S.newObj, setL, V.cs, List.length_cons, List.length_nil, List.take_succ_cons, List.take_zero, List.drop_succ_cons, List.drop_zero, List.drop_nil, List.nil_append, List.cons_append, List.append_nil, Nat.zero_add, Nat.reduceAdd, List.map_cons, List.map_nil, List.set_cons_zero, List.set_cons_succ, enum]
   refine AW.seq ?_
   refine AW.region ?_
   refine AL.rp rfl rfl (rp_field_ref Try.underlying95 rfl rfl rfl inf3 (by decide) rfl) ?_
   refine AL.rd rfl rfl (rd_load_ref Try.underlying3 rfl rfl rfl rfl rfl rfl) ?_
   refine AL.rp rfl rfl (rp_field_ref Try.underlying95 rfl rfl rfl inf3 (by decide) rfl) ?_
   refine AL.rd rfl rfl (rd_load_ref Try.underlying3 rfl rfl rfl rfl rfl rfl) ?_
   (refine AL.rp rfl rfl (rp_lssF rfl rfl rfl (by first | assumption | omega | (dsimp only; omega))) ?_)
   refine AL.rp rfl rfl (rp_move rfl rfl) ?_
   refine AL.rpy rfl rfl rfl (rp_field_ref Try.underlying95 rfl rfl rfl inf3 (by decide) rfl) ?_
   refine AL.rdy rfl rfl rfl (rd_load_ref Try.underlying3 rfl rfl rfl rfl rfl rfl) ?_
   refine AL.rpy rfl rfl rfl (rp_field_ref Try.underlying95 rfl rfl rfl inf3 (by decide) rfl) ?_
   refine AL.rdy rfl rfl rfl (rd_load_ref Try.underlying3 rfl rfl rfl rfl rfl rfl) ?_
   (refine AL.rpy rfl rfl rfl (rp_eqlF rfl rfl rfl (by first | assumption | omega | (dsimp only; omega))) ?_)
   refine AL.rpy rfl rfl rfl (rp_move rfl rfl) ?_
   refine AL.noV rfl rfl rfl rfl ?_
   refine AL.noV rfl rfl rfl rfl ?_
   refine AL.noV rfl rfl rfl rfl ?_
   refine AL.noV rfl rfl rfl rfl ?_
   refine AL.noV rfl rfl rfl rfl ?_
   refine AL.rpy rfl rfl rfl (rp_pick rfl rfl rfl) ?_
   refine AL.rp rfl rfl (rp_pick rfl rfl rfl) ?_
   refine AL.rp rfl rfl (rp_assign rfl rfl) ?_
   refine AL.nil ?_
   try simp only [thenS, S.put]
   refine AW.ret ?_
   exact ⟨[_], ⟨rfl, trivial⟩, by simp [tupOf, h1, h2], by simp [tupOf, V.pure, V.has]⟩
theorem am_Times_ok (w a b : Int) (hw : 0 ≤ w ∧ w ≤ 1000000000) (ha : 0 ≤ a ∧ a ≤ 1000000000) (hb : 0 ≤ b ∧ b ≤ 1000000000) (h : w + a ≤ 1000000000 ∧ 1 + b ≤ 1000000000) : Fn Try.prog 70 [.agg [.i w, .i 1], .agg [.i a, .i b]] (fun v => v = .tup [.agg [.i (w + a), .i (1 + b)], .i 0]) := by
 have m1 := Fn.decT (am_twinMay w 1) (by unfold mayT; omega)
 have m2 := Fn.decT (am_twinMay a b) (by unfold mayT; omega)
 have m3 := Fn.eqv (am_times w 1 a b hw (by omega) ha hb) (show _ = V.tup [.agg [.i (w + a), .i (1 + b)], .b true] by simp [h])
 refine Fn.intro (n := 28) ⟨Try.func70, rfl, rfl, rfl, rfl⟩ (by simp [V.pure, V.has, V.hasL]) (by simp) fun w0 out => ?_
 refine AW.seq ?_
 refine AW.region ?_
 refine AL.sm rfl (sm_box 2 rfl rfl rfl rfl rfl) ?_
 refine AL.sm rfl (sm_box 3 rfl rfl rfl rfl rfl) ?_
 refine AL.sm rfl (sm_alloc (l := [.d (.p (.int .i64 0)), .d (.p (.int .i64 0))]) 4 inf95 rfl rfl rfl rfl) ?_
 refine AL.rp rfl rfl (rp_assign rfl rfl) ?_
 refine AL.nil ?_
 try simp only [thenS, S.put, S.newObj, setL, V.cs, List.length_cons, List.length_nil, List.take_succ_cons, List.take_zero, List.drop_succ_cons, List.drop_zero, List.drop_nil, List.nil_append, List.cons_append, List.append_nil, Nat.zero_add, Nat.reduceAdd, List.map_cons, List.map_nil, List.set_cons_zero, List.set_cons_succ, enum]
 refine AW.seq ?_
 refine AW.seq ?_
 refine AW.region ?_
 refine AL.rd rfl rfl (rd_loads_ref Try.underlying95 rfl inf95 rfl rfl rfl rfl rfl rfl) ?_
 refine AL.call (post := ?pc0) rfl (sm_call (args := [_]) ?hc0 ⟨Try.func106, rfl, rfl, rfl, rfl⟩ rfl rfl rfl rfl) ?_
 case hc0 => exact m1
 rintro _ rfl -
 try dsimp only
 refine AL.rp rfl rfl (rp_not rfl rfl) ?_
 refine AL.rp rfl rfl (rp_move rfl rfl) ?_
 refine AL.rdy rfl rfl rfl (rd_loads_ref Try.underlying95 rfl inf95 rfl rfl rfl rfl rfl rfl) ?_
 (refine AL.cally (post := ?pc1) rfl rfl (sm_call (args := [_]) ?hc1 ⟨Try.func106, rfl, rfl, rfl, rfl⟩ rfl rfl rfl rfl) ?_; (case hc1 => (exact m2)); rintro _ rfl -; try dsimp only)
 refine AL.rpy rfl rfl rfl (rp_not rfl rfl) ?_
 refine AL.rp rfl rfl (rp_pick rfl rfl rfl) ?_
 refine AL.nil ?_
 try simp only [thenS, S.put, S.newObj, setL, V.cs, List.length_cons, List.length_nil, List.take_succ_cons, List.take_zero, List.drop_succ_cons, List.drop_zero, List.drop_nil, List.nil_append, List.cons_append, List.append_nil, Nat.zero_add, Nat.reduceAdd, List.map_cons, List.map_nil, List.set_cons_zero, List.set_cons_succ]
 refine AW.condF rfl ?_
 refine AW.skip ?_
 try simp only [thenS]
 refine AW.seq ?_
 refine AW.region ?_
 refine AL.rp rfl rfl (rp_build (vs := []) (zs := []) pl143 inf143 rfl rfl rfl rfl) ?_
 refine AL.rd rfl rfl (rd_loads_ref Try.underlying95 rfl inf95 rfl rfl rfl rfl rfl rfl) ?_
 refine AL.rd rfl rfl (rd_loads_ref Try.underlying95 rfl inf95 rfl rfl rfl rfl rfl rfl) ?_
 refine AL.call (post := ?pc2) rfl (sm_call (args := [_, _, _]) ?hc2 ⟨Try.func107, rfl, rfl, rfl, rfl⟩ rfl rfl rfl rfl) ?_
 case hc2 => exact m3
 rintro _ rfl -
 try dsimp only
 refine AL.rp rfl rfl (rp_move rfl rfl) ?_
 refine AL.rp rfl rfl (rp_extract rfl rfl rfl) ?_
 refine AL.rp rfl rfl (rp_extract rfl rfl rfl) ?_
 refine AL.sm rfl (sm_alloc (l := [.d (.p (.int .i64 0)), .d (.p (.int .i64 0))]) 6 inf95 rfl rfl rfl rfl) ?_
 refine AL.st rfl (st_store_any inf95 rfl rfl rfl rfl rfl rfl rfl rfl (by first | decide | (simp; done) | (simp; omega)) rfl) ?_
 refine AL.rp rfl rfl (rp_assign rfl rfl) ?_
 refine AL.nil ?_
 try simp only [thenS, S.put, S.newObj, setL, V.cs, List.length_cons, List.length_nil, List.take_succ_cons, List.take_zero, List.drop_succ_cons, List.drop_zero, List.drop_nil, List.nil_append, List.cons_append, List.append_nil, Nat.zero_add, Nat.reduceAdd, List.map_cons, List.map_nil, List.set_cons_zero, List.set_cons_succ]
 refine AW.seq ?_
 refine AW.seq ?_
 refine AW.region ?_
 refine AL.rp rfl rfl (rp_move rfl rfl) ?_
 refine AL.rp rfl rfl (rp_not rfl rfl) ?_
 refine AL.nil ?_
 try simp only [thenS, S.put]
 refine AW.condF rfl ?_
 refine AW.skip ?_
 try simp only [thenS]
 refine AW.seq ?_
 refine AW.region ?_
 refine AL.rd rfl rfl (rd_loads_ref Try.underlying95 rfl inf95 rfl rfl rfl rfl rfl rfl) ?_
 refine AL.st rfl (st_store_any inf95 rfl rfl rfl rfl rfl rfl rfl rfl (by first | decide | (simp; done) | (simp; omega)) rfl) ?_
 refine AL.rp rfl rfl (rp_assign rfl rfl) ?_
 refine AL.nil ?_
 try simp only [thenS, S.put, S.newObj, setL, V.cs, List.length_cons, List.length_nil, List.take_succ_cons, List.take_zero, List.drop_succ_cons, List.drop_zero, List.drop_nil, List.nil_append, List.cons_append, List.append_nil, Nat.zero_add, Nat.reduceAdd, List.map_cons, List.map_nil, List.set_cons_zero, List.set_cons_succ]
 refine AW.ret ?_
 exact ⟨[_, _], ⟨⟨4, 0, _, _, rfl, rfl, rfl, Try.underlying95, .inr ⟨rfl, _, _, _, _, inf95, rfl, rfl, rfl⟩⟩, rfl, trivial⟩, rfl, by simp [tupOf, V.pure, V.has, V.hasL]⟩
theorem am_Times_over (w a b : Int) (hw : 0 ≤ w ∧ w ≤ 1000000000) (ha : 0 ≤ a ∧ a ≤ 1000000000) (hb : 0 ≤ b ∧ b ≤ 1000000000) (h : ¬ (w + a ≤ 1000000000 ∧ 1 + b ≤ 1000000000)) : Fn Try.prog 70 [.agg [.i w, .i 1], .agg [.i a, .i b]] (fun v => v = .tup [.agg [.i 0, .i 0], .i 4]) := by
 have m1 := Fn.decT (am_twinMay w 1) (by unfold mayT; omega)
 have m2 := Fn.decT (am_twinMay a b) (by unfold mayT; omega)
 have m3 := Fn.eqv (am_times w 1 a b hw (by omega) ha hb) (show _ = V.tup [.agg [.i (w + a), .i (1 + b)], .b false] by simp [h])
 refine Fn.intro (n := 28) ⟨Try.func70, rfl, rfl, rfl, rfl⟩ (by simp [V.pure, V.has, V.hasL]) (by simp) fun w0 out => ?_
 refine AW.seq ?_
 refine AW.region ?_
 refine AL.sm rfl (sm_box 2 rfl rfl rfl rfl rfl) ?_
 refine AL.sm rfl (sm_box 3 rfl rfl rfl rfl rfl) ?_
 refine AL.sm rfl (sm_alloc (l := [.d (.p (.int .i64 0)), .d (.p (.int .i64 0))]) 4 inf95 rfl rfl rfl rfl) ?_
 refine AL.rp rfl rfl (rp_assign rfl rfl) ?_
 refine AL.nil ?_
 try simp only [thenS, S.put, S.newObj, setL, V.cs, List.length_cons, List.length_nil, List.take_succ_cons, List.take_zero, List.drop_succ_cons, List.drop_zero, List.drop_nil, List.nil_append, List.cons_append, List.append_nil, Nat.zero_add, Nat.reduceAdd, List.map_cons, List.map_nil, List.set_cons_zero, List.set_cons_succ, enum]
 refine AW.seq ?_
 refine AW.seq ?_
 refine AW.region ?_
 refine AL.rd rfl rfl (rd_loads_ref Try.underlying95 rfl inf95 rfl rfl rfl rfl rfl rfl) ?_
 refine AL.call (post := ?pc3) rfl (sm_call (args := [_]) ?hc3 ⟨Try.func106, rfl, rfl, rfl, rfl⟩ rfl rfl rfl rfl) ?_
 case hc3 => exact m1
 rintro _ rfl -
 try dsimp only
 refine AL.rp rfl rfl (rp_not rfl rfl) ?_
 refine AL.rp rfl rfl (rp_move rfl rfl) ?_
 refine AL.rdy rfl rfl rfl (rd_loads_ref Try.underlying95 rfl inf95 rfl rfl rfl rfl rfl rfl) ?_
 (refine AL.cally (post := ?pc4) rfl rfl (sm_call (args := [_]) ?hc4 ⟨Try.func106, rfl, rfl, rfl, rfl⟩ rfl rfl rfl rfl) ?_; (case hc4 => (exact m2)); rintro _ rfl -; try dsimp only)
 refine AL.rpy rfl rfl rfl (rp_not rfl rfl) ?_
 refine AL.rp rfl rfl (rp_pick rfl rfl rfl) ?_
 refine AL.nil ?_
 try simp only [thenS, S.put, S.newObj, setL, V.cs, List.length_cons, List.length_nil, List.take_succ_cons, List.take_zero, List.drop_succ_cons, List.drop_zero, List.drop_nil, List.nil_append, List.cons_append, List.append_nil, Nat.zero_add, Nat.reduceAdd, List.map_cons, List.map_nil, List.set_cons_zero, List.set_cons_succ]
 refine AW.condF rfl ?_
 refine AW.skip ?_
 try simp only [thenS]
 refine AW.seq ?_
 refine AW.region ?_
 refine AL.rp rfl rfl (rp_build (vs := []) (zs := []) pl143 inf143 rfl rfl rfl rfl) ?_
 refine AL.rd rfl rfl (rd_loads_ref Try.underlying95 rfl inf95 rfl rfl rfl rfl rfl rfl) ?_
 refine AL.rd rfl rfl (rd_loads_ref Try.underlying95 rfl inf95 rfl rfl rfl rfl rfl rfl) ?_
 refine AL.call (post := ?pc5) rfl (sm_call (args := [_, _, _]) ?hc5 ⟨Try.func107, rfl, rfl, rfl, rfl⟩ rfl rfl rfl rfl) ?_
 case hc5 => exact m3
 rintro _ rfl -
 try dsimp only
 refine AL.rp rfl rfl (rp_move rfl rfl) ?_
 refine AL.rp rfl rfl (rp_extract rfl rfl rfl) ?_
 refine AL.rp rfl rfl (rp_extract rfl rfl rfl) ?_
 refine AL.sm rfl (sm_alloc (l := [.d (.p (.int .i64 0)), .d (.p (.int .i64 0))]) 6 inf95 rfl rfl rfl rfl) ?_
 refine AL.st rfl (st_store_any inf95 rfl rfl rfl rfl rfl rfl rfl rfl (by first | decide | (simp; done) | (simp; omega)) rfl) ?_
 refine AL.rp rfl rfl (rp_assign rfl rfl) ?_
 refine AL.nil ?_
 try simp only [thenS, S.put, S.newObj, setL, V.cs, List.length_cons, List.length_nil, List.take_succ_cons, List.take_zero, List.drop_succ_cons, List.drop_zero, List.drop_nil, List.nil_append, List.cons_append, List.append_nil, Nat.zero_add, Nat.reduceAdd, List.map_cons, List.map_nil, List.set_cons_zero, List.set_cons_succ]
 refine AW.seq ?_
 refine AW.seq ?_
 refine AW.region ?_
 refine AL.rp rfl rfl (rp_move rfl rfl) ?_
 refine AL.rp rfl rfl (rp_not rfl rfl) ?_
 refine AL.nil ?_
 try simp only [thenS, S.put]
 refine AW.condT rfl ?_
 refine AW.seq ?_
 refine AW.region ?_
 refine AL.rp rfl rfl (rp_build (vs := []) (zs := [.d (.p (.int .i64 0)), .d (.p (.int .i64 0))]) pl95 inf95 rfl rfl rfl rfl) ?_
 refine AL.st rfl (st_store_any inf95 rfl rfl rfl rfl rfl rfl rfl rfl (by first | decide | (simp; done) | (simp; omega)) rfl) ?_
 refine AL.rp rfl rfl (rp_assign rfl rfl) ?_
 refine AL.nil ?_
 try simp only [thenS, S.put, S.newObj, setL, V.cs, List.length_cons, List.length_nil, List.take_succ_cons, List.take_zero, List.drop_succ_cons, List.drop_zero, List.drop_nil, List.nil_append, List.cons_append, List.append_nil, Nat.zero_add, Nat.reduceAdd, List.map_cons, List.map_nil, List.set_cons_zero, List.set_cons_succ]
 refine AW.ret ?_
 exact ⟨[_, _], ⟨⟨4, 0, _, _, rfl, rfl, rfl, Try.underlying95, .inr ⟨rfl, _, _, _, _, inf95, rfl, rfl, rfl⟩⟩, rfl, trivial⟩, rfl, by simp [tupOf, V.pure, V.has, V.hasL]⟩
theorem am_Times_none (w : Int) (hw : 0 ≤ w ∧ w ≤ 1000000000) : Fn Try.prog 70 [.agg [.i w, .i 1], .agg [.i 1000000001, .i 1000000001]] (fun v => v = .tup [.agg [.i 1000000001, .i 1000000001], .i 0]) := by
 have m1 := Fn.decT (am_twinMay w 1) (by unfold mayT; omega)
 have m2 := Fn.decT (am_twinMay 1000000001 1000000001) (by unfold mayT; omega)
 have m3 := am_times_none w 1 1000000001 1000000001 (.inr ⟨by omega, rfl, rfl⟩)
 refine Fn.intro (n := 28) ⟨Try.func70, rfl, rfl, rfl, rfl⟩ (by simp [V.pure, V.has, V.hasL]) (by simp) fun w0 out => ?_
 refine AW.seq ?_
 refine AW.region ?_
 refine AL.sm rfl (sm_box 2 rfl rfl rfl rfl rfl) ?_
 refine AL.sm rfl (sm_box 3 rfl rfl rfl rfl rfl) ?_
 refine AL.sm rfl (sm_alloc (l := [.d (.p (.int .i64 0)), .d (.p (.int .i64 0))]) 4 inf95 rfl rfl rfl rfl) ?_
 refine AL.rp rfl rfl (rp_assign rfl rfl) ?_
 refine AL.nil ?_
 try simp only [thenS, S.put, S.newObj, setL, V.cs, List.length_cons, List.length_nil, List.take_succ_cons, List.take_zero, List.drop_succ_cons, List.drop_zero, List.drop_nil, List.nil_append, List.cons_append, List.append_nil, Nat.zero_add, Nat.reduceAdd, List.map_cons, List.map_nil, List.set_cons_zero, List.set_cons_succ, enum]
 refine AW.seq ?_
 refine AW.seq ?_
 refine AW.region ?_
 refine AL.rd rfl rfl (rd_loads_ref Try.underlying95 rfl inf95 rfl rfl rfl rfl rfl rfl) ?_
 refine AL.call (post := ?pc6) rfl (sm_call (args := [_]) ?hc6 ⟨Try.func106, rfl, rfl, rfl, rfl⟩ rfl rfl rfl rfl) ?_
 case hc6 => exact m1
 rintro _ rfl -
 try dsimp only
 refine AL.rp rfl rfl (rp_not rfl rfl) ?_
 refine AL.rp rfl rfl (rp_move rfl rfl) ?_
 refine AL.rdy rfl rfl rfl (rd_loads_ref Try.underlying95 rfl inf95 rfl rfl rfl rfl rfl rfl) ?_
 (refine AL.cally (post := ?pc7) rfl rfl (sm_call (args := [_]) ?hc7 ⟨Try.func106, rfl, rfl, rfl, rfl⟩ rfl rfl rfl rfl) ?_; (case hc7 => (exact m2)); rintro _ rfl -; try dsimp only)
 refine AL.rpy rfl rfl rfl (rp_not rfl rfl) ?_
 refine AL.rp rfl rfl (rp_pick rfl rfl rfl) ?_
 refine AL.nil ?_
 try simp only [thenS, S.put, S.newObj, setL, V.cs, List.length_cons, List.length_nil, List.take_succ_cons, List.take_zero, List.drop_succ_cons, List.drop_zero, List.drop_nil, List.nil_append, List.cons_append, List.append_nil, Nat.zero_add, Nat.reduceAdd, List.map_cons, List.map_nil, List.set_cons_zero, List.set_cons_succ]
 refine AW.condF rfl ?_
 refine AW.skip ?_
 try simp only [thenS]
 refine AW.seq ?_
 refine AW.region ?_
 refine AL.rp rfl rfl (rp_build (vs := []) (zs := []) pl143 inf143 rfl rfl rfl rfl) ?_
 refine AL.rd rfl rfl (rd_loads_ref Try.underlying95 rfl inf95 rfl rfl rfl rfl rfl rfl) ?_
 refine AL.rd rfl rfl (rd_loads_ref Try.underlying95 rfl inf95 rfl rfl rfl rfl rfl rfl) ?_
 refine AL.call (post := ?pc8) rfl (sm_call (args := [_, _, _]) ?hc8 ⟨Try.func107, rfl, rfl, rfl, rfl⟩ rfl rfl rfl rfl) ?_
 case hc8 => exact m3
 rintro _ rfl -
 try dsimp only
 refine AL.rp rfl rfl (rp_move rfl rfl) ?_
 refine AL.rp rfl rfl (rp_extract rfl rfl rfl) ?_
 refine AL.rp rfl rfl (rp_extract rfl rfl rfl) ?_
 refine AL.sm rfl (sm_alloc (l := [.d (.p (.int .i64 0)), .d (.p (.int .i64 0))]) 6 inf95 rfl rfl rfl rfl) ?_
 refine AL.st rfl (st_store_any inf95 rfl rfl rfl rfl rfl rfl rfl rfl (by first | decide | (simp; done) | (simp; omega)) rfl) ?_
 refine AL.rp rfl rfl (rp_assign rfl rfl) ?_
 refine AL.nil ?_
 try simp only [thenS, S.put, S.newObj, setL, V.cs, List.length_cons, List.length_nil, List.take_succ_cons, List.take_zero, List.drop_succ_cons, List.drop_zero, List.drop_nil, List.nil_append, List.cons_append, List.append_nil, Nat.zero_add, Nat.reduceAdd, List.map_cons, List.map_nil, List.set_cons_zero, List.set_cons_succ]
 refine AW.seq ?_
 refine AW.seq ?_
 refine AW.region ?_
 refine AL.rp rfl rfl (rp_move rfl rfl) ?_
 refine AL.rp rfl rfl (rp_not rfl rfl) ?_
 refine AL.nil ?_
 try simp only [thenS, S.put]
 refine AW.condF rfl ?_
 refine AW.skip ?_
 try simp only [thenS]
 refine AW.seq ?_
 refine AW.region ?_
 refine AL.rd rfl rfl (rd_loads_ref Try.underlying95 rfl inf95 rfl rfl rfl rfl rfl rfl) ?_
 refine AL.st rfl (st_store_any inf95 rfl rfl rfl rfl rfl rfl rfl rfl (by first | decide | (simp; done) | (simp; omega)) rfl) ?_
 refine AL.rp rfl rfl (rp_assign rfl rfl) ?_
 refine AL.nil ?_
 try simp only [thenS, S.put, S.newObj, setL, V.cs, List.length_cons, List.length_nil, List.take_succ_cons, List.take_zero, List.drop_succ_cons, List.drop_zero, List.drop_nil, List.nil_append, List.cons_append, List.append_nil, Nat.zero_add, Nat.reduceAdd, List.map_cons, List.map_nil, List.set_cons_zero, List.set_cons_succ]
 refine AW.ret ?_
 exact ⟨[_, _], ⟨⟨4, 0, _, _, rfl, rfl, rfl, Try.underlying95, .inr ⟨rfl, _, _, _, _, inf95, rfl, rfl, rfl⟩⟩, rfl, trivial⟩, rfl, by simp [tupOf, V.pure, V.has, V.hasL]⟩

abbrev encTwD (e : Nat × Nat) : List D := [.p (.int .i64 (e.1 : Int)), .p (.int .i64 (e.2 : Int))]
abbrev encTw (e : Nat × Nat) : List V := (encTwD e).map V.d
abbrev twD (L : List (Nat × Nat)) : D := .sl 2 16 (L.map encTwD)
/-- What all states' ends cost at first. -/
def iT (f : Nat) : Nat × Nat := if f = 1000000001 then (inf, inf) else (f, 0)
set_option maxHeartbeats 1000000 in
theorem am_bestEnds (m : Mach) (h0 : machE m = 0) (hd0 : ∀ q, dst (fInit (enF m)) (fEdge (enE m)) q < big → dst (fInit (enF m)) (fEdge (enE m)) q ≤ 1000000000) : Fn Try.prog 69 [mV m] (fun v => v = .d (twD ((List.range m.states.length).map (tws (fInit (enF m)) (fEdge (enE m)))))) := by
 have hbig := big_eq
 obtain ⟨h60, h400, hst, hz⟩ := machE_zero h0
 have hed : ∀ {p q w}, fEdge (enE m) p q w ↔ _ := fun {p q w} => en_edge (m := m) (fun s hs a ha => by have := (hz s hs).2 a ha; simp only [arOk, decide_eq_true_eq] at this; omega)
 have hini := @en_init m
 obtain ⟨st, sts⟩ := m
 simp only at h60 h400 hst hz hed hini
 have hal4 : ∀ x ∈ sts, x.arcs.length ≤ 400 := fun x hx => Nat.le_trans (arcN_mem sts x hx) h400
 obtain ⟨I, hI⟩ : ∃ I, fInit (enF ⟨st, sts⟩) = I := ⟨_, rfl⟩
 obtain ⟨G, hG⟩ : ∃ G, fEdge (enE ⟨st, sts⟩) = G := ⟨_, rfl⟩
 rw [hI] at hini hd0 ⊢
 rw [hG] at hed hd0 ⊢
 simp only
 obtain ⟨n, hn⟩ : ∃ n, sts.length = n := ⟨_, rfl⟩
 rw [hn] at h60 hst hz hini ⊢
 have hin : ∀ p q w, G p q w → p < n := by
  intro p q w h
  obtain ⟨x, j, a, h1, h2, h3, h4⟩ := hed.1 h
  have h5 := (hz x (List.mem_of_getElem? h1)).2 a (List.mem_of_getElem? h2)
  simp only [arOk, decide_eq_true_eq] at h5
  omega
 have hfin : ∀ q, q < n → stF sts q ≤ 1000000001 := by
  intro q hq
  have hx : sts[q]? = some sts[q] := List.getElem?_eq_getElem (by omega)
  have h1 := (hz _ (List.getElem_mem (by omega : q < sts.length))).1
  rw [stF_of hx]
  simp [finOk] at h1
  omega
 obtain ⟨F, hF⟩ : ∃ F, (List.range n).map (tws I G) = F := ⟨_, rfl⟩
 rw [hF]
 refine Fn.intro (n := 86) ⟨Try.func69, rfl, rfl, rfl, rfl⟩ (by simp [V.pure, V.has, V.hasL]) (by simp) fun w0 out => ?_
 refine AW.seq ?_
 refine AW.region ?_
 refine AL.sm rfl (sm_box 1 rfl rfl rfl rfl rfl) ?_
 refine AL.rp rfl rfl (rp_assign rfl rfl) ?_
 refine AL.nil ?_
 try simp only [thenS, S.put, S.newObj, setL, V.cs, List.length_cons, List.length_nil, List.take_succ_cons, List.take_zero, List.drop_succ_cons, List.drop_zero, List.drop_nil, List.nil_append, List.cons_append, List.append_nil, Nat.zero_add, Nat.reduceAdd, List.map_cons, List.map_nil, List.set_cons_zero, List.set_cons_succ, enum]
 refine AW.seq ?_
 refine AW.region ?_
 refine AL.rp rfl rfl (rp_build (vs := [(0, _), (1, _)]) (zs := [.d (.p (.int .i64 0)), .d (.p (.int .i64 0))]) pl95 inf95 rfl rfl rfl rfl) ?_
 refine AL.sm rfl (sm_alloc (l := [.d (.p (.int .i64 0)), .d (.p (.int .i64 0))]) 3 inf95 rfl rfl rfl rfl) ?_
 refine AL.st rfl (st_store_any inf95 rfl rfl rfl rfl rfl rfl rfl rfl (by first | decide | (simp; done) | (simp; omega)) rfl) ?_
 refine AL.nil ?_
 try simp only [thenS, S.put, S.newObj, setL, V.cs, List.length_cons, List.length_nil, List.take_succ_cons, List.take_zero, List.drop_succ_cons, List.drop_zero, List.drop_nil, List.nil_append, List.cons_append, List.append_nil, Nat.zero_add, Nat.reduceAdd, List.map_cons, List.map_nil, List.set_cons_zero, List.set_cons_succ]
 refine AW.seq ?_
 refine AW.region ?_
 refine AL.rp rfl rfl (rp_field_ref Try.underlying24 rfl rfl rfl inf22 (by decide) rfl) ?_
 refine AL.rd rfl rfl (rd_load_ref Try.underlying22 rfl rfl rfl rfl rfl rfl) ?_
 refine AL.rp rfl rfl (rp_len_map Try.underlying22 rfl rfl (by assumption)) ?_
 refine AL.sm rfl (sm_makeN (zs := [.d (.p (.int .i64 0)), .d (.p (.int .i64 0))]) 18 Try.underlying92 inf95 rfl rfl (by decide) rfl rfl rfl (by omega) (by decide) rfl rfl) ?_
 refine AL.rp rfl rfl (rp_assign rfl rfl) ?_
 refine AL.nil ?_
 try simp only [thenS, S.put, S.newObj, setL, V.cs, List.length_cons, List.length_nil, List.take_succ_cons, List.take_zero, List.drop_succ_cons, List.drop_zero, List.drop_nil, List.nil_append, List.cons_append, List.append_nil, Nat.zero_add, Nat.reduceAdd, List.map_cons, List.map_nil, List.set_cons_zero, List.set_cons_succ]
 refine AW.seq ?_
 refine AW.seq ?_
 refine AW.region ?_
 refine AL.rp rfl rfl (rp_field_ref Try.underlying24 rfl rfl rfl inf22 (by decide) rfl) ?_
 refine AL.rd rfl rfl (rd_load_ref Try.underlying22 rfl rfl rfl rfl rfl rfl) ?_
 refine AL.rp rfl rfl (rp_len_map Try.underlying22 rfl rfl (by assumption)) ?_
 refine AL.rp rfl rfl (rp_move rfl rfl) ?_
 refine AL.nil ?_
 try simp only [thenS, S.put]
 refine AW.block ?_
 refine AW.loop (fun s' => ∃ k : Nat, k ≤ n ∧ s' = ⟨86, [(1, .ref 1 0), (3, .ref 3 0), (4, .own 18 2 n false), (20, .d (stsD sts)), (21, .i n), (22, .i k)], [(1, ⟨24, [.i st, .d (stsD sts)], false, 0⟩), (3, ⟨95, [.i 1000000001, .i 1000000001], false, 0⟩), (18, ⟨95, (bl (fun q => if q < k then iT (stF sts q) else (0, 0)) n).flatMap encTw, false, 2⟩)], []⟩) (fun s' => n - s'.nat 22) ⟨_, ?_, 0, by omega, rfl⟩ ?_
 ·have hz0 : (List.replicate n [V.d (.p (.int .i64 0)), V.d (.p (.int .i64 0))]).flatten = (bl (fun q => if q < 0 then iT (stF sts q) else (0, 0)) n).flatMap encTw := by rw [show (bl (fun q => if q < 0 then iT (stF sts q) else (0, 0)) n) = List.replicate n (0, 0) by rw [bl_rep]; exact bl_congr fun q _ => by simp, flatMap_rep]; rfl
  rw [← hz0]
  exact (Less.of rfl (by repeat (first | exact trivial | refine ⟨⟨_, rfl, Wk.refl _⟩, ?_⟩ | refine ⟨⟨_, rfl, Wk.nil _ _⟩, ?_⟩ | refine ⟨⟨_, rfl, Wk.junk _⟩, ?_⟩)) (by repeat (first | exact trivial | refine ⟨rfl, ?_⟩)) rfl)
 rintro s' ⟨k, hk, rfl⟩
 by_cases hlt : k < n
 ·obtain ⟨x, hx⟩ := get_lt hn hlt
  have hxf := (hz x (List.mem_of_getElem? hx)).1
  have hkf := stF_of hx
  obtain ⟨xf, xa⟩ := x
  simp only [finOk, decide_eq_true_eq] at hxf
  obtain ⟨f, rfl⟩ : ∃ f : Nat, xf = f := ⟨xf.toNat, by omega⟩
  simp only [Int.toNat_natCast] at hkf
  have hkL : k < (bl (fun q => if q < k then iT (stF sts q) else (0, 0)) n).length := by rw [bl_len]; exact hlt
  have hkL2 : k < ((bl (fun q => if q < k then iT (stF sts q) else (0, 0)) n).set k (inf, inf)).length := by rw [List.length_set, bl_len]; exact hlt
  have hnext : ∀ v : Nat × Nat, v = iT f → (bl (fun q => if q < k then iT (stF sts q) else (0, 0)) n).set k v = (bl (fun q => if q < (k + 1) then iT (stF sts q) else (0, 0)) n) := fun v hv => bl_set hlt (by rw [if_pos (by omega), hkf, hv]) fun q _ hq => by
   by_cases e : q < k
   ·rw [if_pos e, if_pos (by omega)]
   ·rw [if_neg e, if_neg (by omega)]
  by_cases hi : f = 1000000001
  ·have hn1 := hnext (inf, inf) (by simp [iT, hi])
   have htest : (f : Int) = 1000000001 := by omega
   refine AW.seq ?_
   refine AW.region ?_
   (refine AL.rp rfl rfl (rp_lssT rfl rfl rfl (by first | assumption | omega | (dsimp only; omega))) ?_)
   refine AL.nil ?_
   try simp only [thenS, S.put]
   refine AW.seq ?_
   refine AW.condT rfl ?_
   refine AW.skip ?_
   try simp only [thenS]
   refine AW.seq ?_
   refine AW.block ?_
   refine AW.seq ?_
   refine AW.region ?_
   refine AL.rp rfl rfl (rp_move rfl rfl) ?_
   refine AL.rp rfl rfl (rp_index_map Try.underlying22 inf69 rfl rfl rfl rfl (by assumption)) ?_
   refine AL.rd rfl rfl (rd_loads_ad Try.underlying69 rfl inf69 rfl rfl rfl rfl) ?_
   refine AL.sm rfl (sm_alloc (l := [.d (.p (.int .i64 0)), .d (.p (.slice none 0 0))]) 6 inf69 rfl (by simp [S.clean, S.put, S.newObj, S.forget, V.has, V.hasL, junkIf, setL, V.cs, hasL_i, hasL_b, hasL_s, hasL_n, hasL_rep, hasL_flat, hasL_append, -List.map_set]) rfl rfl) ?_
   refine AL.rp rfl rfl (rp_assign rfl rfl) ?_
   refine AL.st rfl (st_store_any inf69 rfl rfl rfl rfl rfl rfl rfl rfl (by first | decide | (simp; done) | (simp; omega)) rfl) ?_
   refine AL.nil ?_
   try simp only [thenS, S.put, S.newObj, setL, V.cs, List.length_cons, List.length_nil, List.take_succ_cons, List.take_zero, List.drop_succ_cons, List.drop_zero, List.drop_nil, List.nil_append, List.cons_append, List.append_nil, Nat.zero_add, Nat.reduceAdd, List.map_cons, List.map_nil, List.set_cons_zero, List.set_cons_succ]
   refine AW.seq ?_
   refine AW.region ?_
   refine AL.rp rfl rfl (rp_move rfl rfl) ?_
   refine AL.rp rfl rfl (rp_move rfl rfl) ?_
   refine AL.rd rfl rfl (rd_loads_ref Try.underlying95 rfl inf95 rfl rfl rfl rfl rfl rfl) ?_
   refine AL.rp rfl rfl (rp_index_own Try.underlying92 inf95 rfl rfl rfl rfl (by first | assumption | omega)) ?_
   refine AL.st rfl (st_stores_flat ((inf, inf)) inf95 rfl rfl rfl rfl rfl rfl rfl (fun _ => rfl) (by first | assumption | omega | (simp; omega)) rfl) ?_
   refine AL.nil ?_
   try simp only [thenS, S.put, S.newObj, setL, V.cs, List.length_cons, List.length_nil, List.take_succ_cons, List.take_zero, List.drop_succ_cons, List.drop_zero, List.drop_nil, List.nil_append, List.cons_append, List.append_nil, Nat.zero_add, Nat.reduceAdd, List.map_cons, List.map_nil, List.set_cons_zero, List.set_cons_succ]
   refine AW.seq ?_
   refine AW.region ?_
   refine AL.rp rfl rfl (rp_field_ref Try.underlying69 rfl rfl rfl inf3 (by decide) rfl) ?_
   refine AL.rd rfl rfl (rd_load_ref Try.underlying3 rfl rfl rfl rfl rfl rfl) ?_
   (refine AL.rp rfl rfl (rp_neqF rfl rfl rfl (by first | assumption | omega | (dsimp only; omega))) ?_)
   refine AL.nil ?_
   try simp only [thenS, S.put]
   refine AW.condF rfl ?_
   refine AW.skip ?_
   try simp only [thenS]
   refine AW.region ?_
   refine AL.rp rfl rfl (rp_add rfl rfl rfl (by first | omega | (dsimp only; omega))) ?_
   refine AL.rp rfl rfl (rp_move rfl rfl) ?_
   refine AL.nil ?_
   try simp only [thenS, S.put]
   refine ⟨_, ?_, ⟨k + 1, by omega, rfl⟩, ?_⟩
   ·rw [← hn1]; exact (Less.of rfl (by repeat (first | exact trivial | refine ⟨⟨_, rfl, Wk.refl _⟩, ?_⟩ | refine ⟨⟨_, rfl, Wk.nil _ _⟩, ?_⟩ | refine ⟨⟨_, rfl, Wk.junk _⟩, ?_⟩)) (by repeat (first | exact trivial | refine ⟨rfl, ?_⟩)) rfl)
   ·simp [S.nat, fnd]; omega
  ·have hn1 : ((bl (fun q => if q < k then iT (stF sts q) else (0, 0)) n).set k (inf, inf)).set k (f, 0) = (bl (fun q => if q < (k + 1) then iT (stF sts q) else (0, 0)) n) := by rw [List.set_set]; exact hnext (f, 0) (by simp [iT, hi])
   have htest : ¬ (f : Int) = 1000000001 := by omega
   refine AW.seq ?_
   refine AW.region ?_
   (refine AL.rp rfl rfl (rp_lssT rfl rfl rfl (by first | assumption | omega | (dsimp only; omega))) ?_)
   refine AL.nil ?_
   try simp only [thenS, S.put]
   refine AW.seq ?_
   refine AW.condT rfl ?_
   refine AW.skip ?_
   try simp only [thenS]
   refine AW.seq ?_
   refine AW.block ?_
   refine AW.seq ?_
   refine AW.region ?_
   refine AL.rp rfl rfl (rp_move rfl rfl) ?_
   refine AL.rp rfl rfl (rp_index_map Try.underlying22 inf69 rfl rfl rfl rfl (by assumption)) ?_
   refine AL.rd rfl rfl (rd_loads_ad Try.underlying69 rfl inf69 rfl rfl rfl rfl) ?_
   refine AL.sm rfl (sm_alloc (l := [.d (.p (.int .i64 0)), .d (.p (.slice none 0 0))]) 6 inf69 rfl (by simp [S.clean, S.put, S.newObj, S.forget, V.has, V.hasL, junkIf, setL, V.cs, hasL_i, hasL_b, hasL_s, hasL_n, hasL_rep, hasL_flat, hasL_append, -List.map_set]) rfl rfl) ?_
   refine AL.rp rfl rfl (rp_assign rfl rfl) ?_
   refine AL.st rfl (st_store_any inf69 rfl rfl rfl rfl rfl rfl rfl rfl (by first | decide | (simp; done) | (simp; omega)) rfl) ?_
   refine AL.nil ?_
   try simp only [thenS, S.put, S.newObj, setL, V.cs, List.length_cons, List.length_nil, List.take_succ_cons, List.take_zero, List.drop_succ_cons, List.drop_zero, List.drop_nil, List.nil_append, List.cons_append, List.append_nil, Nat.zero_add, Nat.reduceAdd, List.map_cons, List.map_nil, List.set_cons_zero, List.set_cons_succ]
   refine AW.seq ?_
   refine AW.region ?_
   refine AL.rp rfl rfl (rp_move rfl rfl) ?_
   refine AL.rp rfl rfl (rp_move rfl rfl) ?_
   refine AL.rd rfl rfl (rd_loads_ref Try.underlying95 rfl inf95 rfl rfl rfl rfl rfl rfl) ?_
   refine AL.rp rfl rfl (rp_index_own Try.underlying92 inf95 rfl rfl rfl rfl (by first | assumption | omega)) ?_
   refine AL.st rfl (st_stores_flat ((inf, inf)) inf95 rfl rfl rfl rfl rfl rfl rfl (fun _ => rfl) (by first | assumption | omega | (simp; omega)) rfl) ?_
   refine AL.nil ?_
   try simp only [thenS, S.put, S.newObj, setL, V.cs, List.length_cons, List.length_nil, List.take_succ_cons, List.take_zero, List.drop_succ_cons, List.drop_zero, List.drop_nil, List.nil_append, List.cons_append, List.append_nil, Nat.zero_add, Nat.reduceAdd, List.map_cons, List.map_nil, List.set_cons_zero, List.set_cons_succ]
   refine AW.seq ?_
   refine AW.region ?_
   refine AL.rp rfl rfl (rp_field_ref Try.underlying69 rfl rfl rfl inf3 (by decide) rfl) ?_
   refine AL.rd rfl rfl (rd_load_ref Try.underlying3 rfl rfl rfl rfl rfl rfl) ?_
   (refine AL.rp rfl rfl (rp_neqT rfl rfl rfl (by first | assumption | omega | (dsimp only; omega))) ?_)
   refine AL.nil ?_
   try simp only [thenS, S.put]
   refine AW.condT rfl ?_
   refine AW.region ?_
   refine AL.rp rfl rfl (rp_move rfl rfl) ?_
   refine AL.rp rfl rfl (rp_move rfl rfl) ?_
   refine AL.rp rfl rfl (rp_field_ref Try.underlying69 rfl rfl rfl inf3 (by decide) rfl) ?_
   refine AL.rd rfl rfl (rd_load_ref Try.underlying3 rfl rfl rfl rfl rfl rfl) ?_
   refine AL.rp rfl rfl (rp_build (vs := [(0, _)]) (zs := [.d (.p (.int .i64 0)), .d (.p (.int .i64 0))]) pl95 inf95 rfl rfl rfl rfl) ?_
   refine AL.rp rfl rfl (rp_index_own Try.underlying92 inf95 rfl rfl rfl rfl (by first | assumption | omega)) ?_
   refine AL.st rfl (st_stores_flat ((f, 0)) inf95 rfl rfl rfl rfl rfl rfl rfl (fun _ => rfl) (by first | assumption | omega | (simp; omega)) rfl) ?_
   refine AL.nil ?_
   try simp only [thenS, S.put, S.newObj, setL, V.cs, List.length_cons, List.length_nil, List.take_succ_cons, List.take_zero, List.drop_succ_cons, List.drop_zero, List.drop_nil, List.nil_append, List.cons_append, List.append_nil, Nat.zero_add, Nat.reduceAdd, List.map_cons, List.map_nil, List.set_cons_zero, List.set_cons_succ]
   refine AW.region ?_
   refine AL.rp rfl rfl (rp_add rfl rfl rfl (by first | omega | (dsimp only; omega))) ?_
   refine AL.rp rfl rfl (rp_move rfl rfl) ?_
   refine AL.nil ?_
   try simp only [thenS, S.put]
   refine ⟨_, ?_, ⟨k + 1, by omega, rfl⟩, ?_⟩
   ·rw [← hn1]; exact (Less.of rfl (by repeat (first | exact trivial | refine ⟨⟨_, rfl, Wk.refl _⟩, ?_⟩ | refine ⟨⟨_, rfl, Wk.nil _ _⟩, ?_⟩ | refine ⟨⟨_, rfl, Wk.junk _⟩, ?_⟩)) (by repeat (first | exact trivial | refine ⟨rfl, ?_⟩)) rfl)
   ·simp [S.nat, fnd]; omega
 ·obtain rfl : k = n := by omega
  obtain ⟨n, rfl⟩ : ∃ n, n = k := ⟨_, rfl⟩
  have hT0 : Tws I G n (bl (fun q => if q < n then iT (stF sts q) else (0, 0)) n) := by
   refine ⟨bl_len _ _, fun q a b h => ?_, fun q a b d h hi => ?_⟩
   all_goals
    obtain ⟨hq, hv⟩ := bl_inv h
    have hf1 := hfin q hq
    rw [if_pos hq] at hv
    unfold iT at hv
   ·split at hv
    ·simp only [Prod.mk.injEq] at hv; exact .inl hv
    ·rename_i e
     simp only [Prod.mk.injEq] at hv
     obtain ⟨rfl, rfl⟩ := hv
     exact .inr ⟨by omega, by omega, .init q _ (hini.2 ⟨hq, rfl, e⟩)⟩
   ·obtain ⟨_, h2, h3⟩ := hini.1 hi
    rw [if_neg (by omega)] at hv
    simp only [Prod.mk.injEq] at hv
    obtain ⟨rfl, rfl⟩ := hv
    exact .inr ⟨h2, Nat.le_refl _⟩
  obtain ⟨L, hL⟩ : ∃ L, (bl (fun q => if q < n then iT (stF sts q) else (0, 0)) n) = L := ⟨_, rfl⟩
  rw [hL] at hT0 ⊢
  clear hL
  refine AW.seq ?_
  refine AW.region ?_
  (refine AL.rp rfl rfl (rp_lssF rfl rfl rfl (by first | assumption | omega | (dsimp only; omega))) ?_)
  refine AL.nil ?_
  try simp only [thenS, S.put]
  refine AW.seq ?_
  refine AW.condF rfl ?_
  refine AW.exit ?_
  try simp only [thenS, inBlockS, ↓reduceIte, Nat.reduceEqDiff]
  refine AW.seq ?_
  refine AW.seq ?_
  refine AW.region ?_
  refine AL.rp rfl rfl (rp_assign rfl rfl) ?_
  refine AL.nil ?_
  try simp only [thenS, S.put]
  refine AW.block ?_
  refine AW.loopN (fun μ s' => ∃ (ag : Bool) (L : List (Nat × Nat)), Tws I G n L ∧ (ag = false → Twc G (fun _ _ _ => True) L) ∧ μ = 2 * tmass L + (if ag then 1 else 0) ∧ s' = ⟨86, [(1, .ref 1 0), (4, .own 18 2 n false), (7, .b ag)], [(1, ⟨24, [.i st, .d (stsD sts)], false, 0⟩), (18, ⟨95, L.flatMap encTw, false, 2⟩)], []⟩) ⟨_, _, ?_, true, L, hT0, (fun h => by cases h), rfl, rfl⟩ ?_
  ·exact (Less.of rfl (by repeat (first | exact trivial | refine ⟨⟨_, rfl, Wk.refl _⟩, ?_⟩ | refine ⟨⟨_, rfl, Wk.nil _ _⟩, ?_⟩ | refine ⟨⟨_, rfl, Wk.junk _⟩, ?_⟩)) (by repeat (first | exact trivial | refine ⟨rfl, ?_⟩)) rfl)
  clear hT0
  rintro μ s' ⟨ag, L, hT, hcl, rfl, rfl⟩
  cases ag with
  | false =>
   have hLF := Tws.eq hT (hcl rfl) hin h60 hd0
   rw [hF] at hLF
   subst hLF
   have hll := hT.len
   refine AW.seq ?_
   refine AW.seq ?_
   refine AW.region ?_
   refine AL.rp rfl rfl (rp_move rfl rfl) ?_
   refine AL.nil ?_
   try simp only [thenS, S.put]
   refine AW.condF rfl ?_
   refine AW.exit ?_
   try simp only [thenS, inBlockS, ↓reduceIte, Nat.reduceEqDiff]
   refine AW.seq ?_
   refine AW.freeze 4 16 (L.map encTwD) rfl rfl rfl (by simp [hll]) (by omega) (rowsF (enc := encTwD) (sz := 2) (l := L) (fun _ => rfl) rfl) ?_
   refine AW.region ?_
   refine AL.rp rfl rfl (rp_move rfl rfl) ?_
   refine AL.rp rfl rfl (rp_assign rfl rfl) ?_
   refine AL.nil ?_
   try simp only [thenS, S.put]
   refine AW.ret ?_
   exact ⟨[_], ⟨rfl, trivial⟩, rfl, by simp [tupOf, V.pure, V.has]⟩
  | true =>
   refine AW.seq ?_
   refine AW.seq ?_
   refine AW.region ?_
   refine AL.rp rfl rfl (rp_move rfl rfl) ?_
   refine AL.nil ?_
   try simp only [thenS, S.put]
   refine AW.condT rfl ?_
   refine AW.skip ?_
   try simp only [thenS]
   refine AW.block ?_
   refine AW.seq ?_
   refine AW.region ?_
   refine AL.rp rfl rfl (rp_assign rfl rfl) ?_
   refine AL.nil ?_
   try simp only [thenS, S.put]
   refine AW.seq ?_
   refine AW.region ?_
   refine AL.rp rfl rfl (rp_field_ref Try.underlying24 rfl rfl rfl inf22 (by decide) rfl) ?_
   refine AL.rd rfl rfl (rd_load_ref Try.underlying22 rfl rfl rfl rfl rfl rfl) ?_
   refine AL.rp rfl rfl (rp_len_map Try.underlying22 rfl rfl (by assumption)) ?_
   refine AL.rp rfl rfl (rp_move rfl rfl) ?_
   refine AL.nil ?_
   try simp only [thenS, S.put]
   refine AW.block ?_
   refine AW.loop (fun s' => ∃ (q : Nat) (ag : Bool) (L' : List (Nat × Nat)), q ≤ n ∧ Tws I G n L' ∧ (ag = false → L' = L ∧ Twc G (fun _ q' _ => q' < q) L) ∧ (ag = true → tmass L' + 1 ≤ tmass L) ∧ s' = ⟨86, [(1, .ref 1 0), (4, .own 18 2 n false), (7, .b ag), (43, .d (stsD sts)), (44, .i n), (45, .i q)], [(1, ⟨24, [.i st, .d (stsD sts)], false, 0⟩), (18, ⟨95, L'.flatMap encTw, false, 2⟩)], []⟩) (fun s' => n - s'.nat 45) ⟨_, ?_, 0, false, L, by omega, hT, (fun _ => ⟨rfl, fun p q w a b c d h => absurd h (by omega)⟩), (fun h => by cases h), rfl⟩ ?_
   ·exact (Less.of rfl (by repeat (first | exact trivial | refine ⟨⟨_, rfl, Wk.refl _⟩, ?_⟩ | refine ⟨⟨_, rfl, Wk.nil _ _⟩, ?_⟩ | refine ⟨⟨_, rfl, Wk.junk _⟩, ?_⟩)) (by repeat (first | exact trivial | refine ⟨rfl, ?_⟩)) rfl)
   rintro s' ⟨q, ag, L', hq, hT', hf, ht, rfl⟩
   by_cases hlq : q < n
   ·obtain ⟨x, hx⟩ := get_lt hn hlq
    obtain ⟨la, hla⟩ : ∃ n, x.arcs.length = n := ⟨_, rfl⟩
    have hla' := hal4 x (List.mem_of_getElem? hx)
    rw [hla] at hla'
    have edge_q : ∀ {p w : Nat}, G p q w → ∃ (j : Nat) (a : Ar), x.arcs[j]? = some a ∧ a.t = (p : Int) ∧ a.w = (w : Int) := by
     intro p w h
     obtain ⟨x', j, a, h1, h2, h3, h4⟩ := hed.1 h
     rw [hx] at h1
     simp only [Option.some.injEq] at h1
     subst h1
     exact ⟨j, a, h2, h3, h4⟩
    refine AW.seq ?_
    refine AW.region ?_
    (refine AL.rp rfl rfl (rp_lssT rfl rfl rfl (by first | assumption | omega | (dsimp only; omega))) ?_)
    refine AL.nil ?_
    try simp only [thenS, S.put]
    refine AW.seq ?_
    refine AW.condT rfl ?_
    refine AW.skip ?_
    try simp only [thenS]
    refine AW.seq ?_
    refine AW.block ?_
    refine AW.seq ?_
    refine AW.region ?_
    refine AL.rp rfl rfl (rp_move rfl rfl) ?_
    refine AL.rp rfl rfl (rp_index_map Try.underlying22 inf69 rfl rfl rfl rfl (by assumption)) ?_
    refine AL.rd rfl rfl (rd_loads_ad Try.underlying69 rfl inf69 rfl rfl rfl rfl) ?_
    refine AL.sm rfl (sm_alloc (l := [.d (.p (.int .i64 0)), .d (.p (.slice none 0 0))]) 9 inf69 rfl (by simp [S.clean, S.put, S.newObj, S.forget, V.has, V.hasL, junkIf, setL, V.cs, hasL_i, hasL_b, hasL_s, hasL_n, hasL_rep, hasL_flat, hasL_append, -List.map_set]) rfl rfl) ?_
    refine AL.rp rfl rfl (rp_assign rfl rfl) ?_
    refine AL.st rfl (st_store_any inf69 rfl rfl rfl rfl rfl rfl rfl rfl (by first | decide | (simp; done) | (simp; omega)) rfl) ?_
    refine AL.nil ?_
    try simp only [thenS, S.put, S.newObj, setL, V.cs, List.length_cons, List.length_nil, List.take_succ_cons, List.take_zero, List.drop_succ_cons, List.drop_zero, List.drop_nil, List.nil_append, List.cons_append, List.append_nil, Nat.zero_add, Nat.reduceAdd, List.map_cons, List.map_nil, List.set_cons_zero, List.set_cons_succ]
    refine AW.seq ?_
    refine AW.region ?_
    refine AL.rp rfl rfl (rp_field_ref Try.underlying69 rfl rfl rfl inf67 (by decide) rfl) ?_
    refine AL.rd rfl rfl (rd_load_ref Try.underlying67 rfl rfl rfl rfl rfl rfl) ?_
    refine AL.rp rfl rfl (rp_len_map Try.underlying67 rfl rfl (by assumption)) ?_
    refine AL.rp rfl rfl (rp_move rfl rfl) ?_
    refine AL.nil ?_
    try simp only [thenS, S.put]
    refine AW.block ?_
    refine AW.loop (fun s' => ∃ (i : Nat) (ag : Bool) (L' : List (Nat × Nat)), i ≤ la ∧ Tws I G n L' ∧ (ag = false → L' = L ∧ Twc G (fun p q' w => q' < q ∨ q' = q ∧ ∃ (j : Nat) (a : Ar), j < i ∧ x.arcs[j]? = some a ∧ a.t = (p : Int) ∧ a.w = (w : Int)) L) ∧ (ag = true → tmass L' + 1 ≤ tmass L) ∧ s' = ⟨86, [(1, .ref 1 0), (4, .own 18 2 n false), (7, .b ag), (8, .i q), (43, .d (stsD sts)), (44, .i n), (45, .i q), (51, .d (arsD x.arcs)), (52, .i la), (53, .i i)], [(1, ⟨24, [.i st, .d (stsD sts)], false, 0⟩), (18, ⟨95, L'.flatMap encTw, false, 2⟩)], []⟩) (fun s' => la - s'.nat 53) ⟨_, ?_, 0, ag, L', by omega, hT', (fun h => ⟨(hf h).1, fun p q' w a b c d h1 => ?_⟩), ht, rfl⟩ ?_
    ·exact (Less.of rfl (by repeat (first | exact trivial | refine ⟨⟨_, rfl, Wk.refl _⟩, ?_⟩ | refine ⟨⟨_, rfl, Wk.nil _ _⟩, ?_⟩ | refine ⟨⟨_, rfl, Wk.junk _⟩, ?_⟩)) (by repeat (first | exact trivial | refine ⟨rfl, ?_⟩)) rfl)
    ·rcases h1 with h1 | ⟨_, j, _, h1, _⟩
     ·exact (hf h).2 p q' w a b c d h1
     ·exact absurd h1 (by omega)
    rintro s' ⟨i, ag, L', hi, hT', hf, ht, rfl⟩
    obtain ⟨⟨c, d⟩, hcd⟩ := get_lt hT'.len hlq
    have hcdp := hT'.path q c d hcd
    have hqL : q < L'.length := by rw [hT'.len]; exact hlq
    by_cases hil : i < la
    ·obtain ⟨y, hy⟩ := get_lt hla hil
     have hyt := (hz x (List.mem_of_getElem? hx)).2 y (List.mem_of_getElem? hy)
     obtain ⟨yi, yo, yw, yt⟩ := y
     simp only [arOk, decide_eq_true_eq] at hyt
     obtain ⟨p, rfl⟩ : ∃ p : Nat, yt = p := ⟨yt.toNat, by omega⟩
     obtain ⟨w, rfl⟩ : ∃ w : Nat, yw = w := ⟨yw.toNat, by omega⟩
     have hpn : p < n := by omega
     obtain ⟨⟨a, b⟩, hab⟩ := get_lt hT'.len hpn
     have habp := hT'.path p a b hab
     have hG1 : G p q w := hed.2 ⟨x, i, _, hx, hy, rfl, rfl⟩
     have hskip : (a ≤ 1000000000 → a + w ≤ 1000000000 → b + 1 ≤ 1000000000 → ¬ ltT (a + w) (b + 1) c d) → (ag = false → L' = L ∧ Twc G (fun p q' w => q' < q ∨ q' = q ∧ ∃ (j : Nat) (a : Ar), j < i + 1 ∧ x.arcs[j]? = some a ∧ a.t = (p : Int) ∧ a.w = (w : Int)) L) := fun hno h => by
      obtain ⟨rfl, hc⟩ := hf h
      refine ⟨rfl, fun p' q' w' a' b' c' d' h1 h2 h3 h4 => ?_⟩
      rcases h1 with h1 | ⟨rfl, j, z, h5, h6, h7, h8⟩
      ·exact hc p' q' w' a' b' c' d' (.inl h1) h2 h3 h4
      ·by_cases e : j = i
       ·subst e
        rw [hy] at h6
        simp only [Option.some.injEq] at h6
        subst h6
        simp only at h7 h8
        obtain rfl : p = p' := by omega
        obtain rfl : w = w' := by omega
        rw [hab] at h3
        rw [hcd] at h4
        simp only [Option.some.injEq, Prod.mk.injEq] at h3 h4
        obtain ⟨rfl, rfl⟩ := h3
        obtain ⟨rfl, rfl⟩ := h4
        exact hno
       ·exact hc p' q' w' a' b' c' d' (.inr ⟨rfl, j, z, by omega, h6, h7, h8⟩) h2 h3 h4
     rcases habp with ⟨rfl, rfl⟩ | ⟨ha9, hb9, _⟩
     ·have hsk := hskip (fun h => by simp only [inf] at h; omega)
      have ht1 := am_Times_none (w : Int) (by omega)
      have ht2 := Fn.decF (am_TwLess 1000000001 1000000001 c d) (by simp only [inf] at hcdp; omega)
      refine AW.seq ?_
      refine AW.region ?_
      (refine AL.rp rfl rfl (rp_lssT rfl rfl rfl (by first | assumption | omega | (dsimp only; omega))) ?_)
      refine AL.nil ?_
      try simp only [thenS, S.put]
      refine AW.seq ?_
      refine AW.condT rfl ?_
      refine AW.skip ?_
      try simp only [thenS]
      refine AW.seq ?_
      refine AW.block ?_
      refine AW.seq ?_
      refine AW.region ?_
      refine AL.rp rfl rfl (rp_index_map Try.underlying67 inf79 rfl rfl rfl rfl (by assumption)) ?_
      refine AL.rd rfl rfl (rd_loads_ad Try.underlying79 rfl inf79 rfl rfl rfl rfl) ?_
      refine AL.sm rfl (sm_alloc (l := [.d (.p (.int .i64 0)), .d (.p (.int .i64 0)), .d (.p (.int .i64 0)), .d (.p (.int .i64 0))]) 11 inf79 rfl (by simp [S.clean, S.put, S.newObj, S.forget, V.has, V.hasL, junkIf, setL, V.cs, hasL_i, hasL_b, hasL_s, hasL_n, hasL_rep, hasL_flat, hasL_append, -List.map_set]) rfl rfl) ?_
      refine AL.st rfl (st_store_any inf79 rfl rfl rfl rfl rfl rfl rfl rfl (by first | decide | (simp; done) | (simp; omega)) rfl) ?_
      refine AL.nil ?_
      try simp only [thenS, S.put, S.newObj, setL, V.cs, List.length_cons, List.length_nil, List.take_succ_cons, List.take_zero, List.drop_succ_cons, List.drop_zero, List.drop_nil, List.nil_append, List.cons_append, List.append_nil, Nat.zero_add, Nat.reduceAdd, List.map_cons, List.map_nil, List.set_cons_zero, List.set_cons_succ]
      refine AW.seq ?_
      refine AW.draw2 (N := ?N10) [0, 1, 2, 3, 4, 5, 6, 7] 8 12 [(9, true), (10, true), (11, true), (12, false), (13, false), (14, false)] [(8, false), (9, false), (10, true), (11, true), (13, false), (14, false)] (fun _ => true) 15 (by kernel_rfl) (by kernel_rfl) rfl rfl (by kernel_rfl) ?_ ?_
      rotate_left
      refine AB1.rp rfl rfl rfl (fun _ _ h => h) (rp_field_ref Try.underlying79 rfl rfl rfl inf3 (by decide) rfl) ?_
      refine AB1.rd rfl rfl rfl (fun _ _ h => h) (rd_load_ref Try.underlying3 rfl rfl rfl rfl rfl rfl) ?_
      refine AB1.rp rfl rfl rfl (fun _ _ h => h) (rp_build (vs := [(0, _), (1, _)]) (zs := [.d (.p (.int .i64 0)), .d (.p (.int .i64 0))]) pl95 inf95 rfl rfl rfl rfl) ?_
      refine AB1.rp rfl rfl rfl (fun _ _ h => h) (rp_move rfl rfl) ?_
      refine AB1.rp rfl rfl rfl (fun _ _ h => h) (rp_field_ref Try.underlying79 rfl rfl rfl inf3 (by decide) rfl) ?_
      refine AB1.rd rfl rfl rfl (fun _ _ h => h) (rd_load_ref Try.underlying3 rfl rfl rfl rfl rfl rfl) ?_
      refine AB1.rp rfl rfl rfl (fun _ _ h => h) (rp_index_own Try.underlying92 inf95 rfl rfl rfl rfl (by first | assumption | omega)) ?_
      refine AB1.rd rfl rfl rfl (fun _ _ h => h) (rd_loads_flat Try.underlying95 rfl inf95 rfl rfl rfl rfl rfl (fun _ => rfl) (by assumption)) ?_
      refine AB1.nil ?_ ?_
      refine AD2.call (post := ?pc10) rfl rfl (sm_call (args := [_, _]) ?hc10 ⟨Try.func70, rfl, rfl, rfl, rfl⟩ rfl rfl rfl rfl) ?_
      case hc10 => exact ht1
      rintro _ rfl -
      try dsimp only
      refine AD2.rp rfl rfl rfl (fun _ _ h => h) (rp_move rfl rfl) ?_
      refine AD2.rp rfl rfl rfl (fun _ _ h => h) (rp_extract rfl rfl rfl) ?_
      refine AD2.rp rfl rfl rfl (fun _ _ h => h) (rp_extract rfl rfl rfl) ?_
      refine AD2.new rfl rfl (sg_alloc (l := [.d (.p (.int .i64 0)), .d (.p (.int .i64 0))]) 12 inf95 rfl (by simp [S.clean, S.put, S.newObj, S.forget, V.has, V.hasL, junkIf, setL, V.cs, hasL_i, hasL_b, hasL_s, hasL_n, hasL_rep, hasL_flat, hasL_append, -List.map_set]) rfl rfl) ?_
      refine AQ.st rfl rfl (st_store_anyS inf95 rfl rfl rfl rfl rfl rfl rfl rfl (by first | decide | (simp; done) | (simp; omega)) rfl) ?_
      refine AQ.rp1 rfl rfl rfl (rp_assign rfl rfl) ?_
      refine AQ.nil ?_
      show Less _ _
      exact Less.dd _
      refine AD2.new rfl rfl (sg_alloc (l := [.d (.p (.int .i64 0)), .d (.p (.int .i64 0))]) 12 inf95 rfl (by simp [S.clean, S.put, S.newObj, S.forget, V.has, V.hasL, junkIf, setL, V.cs, hasL_i, hasL_b, hasL_s, hasL_n, hasL_rep, hasL_flat, hasL_append, -List.map_set]) rfl rfl) ?_
      refine AQ.call (post := ?pc11) rfl rfl (sk_call (args := [_, _]) ?hc11 ⟨Try.func70, rfl, rfl, rfl, rfl⟩ rfl rfl rfl rfl) ?_
      case hc11 => exact ht1
      rintro _ rfl -
      try dsimp only
      refine AQ.rp1 rfl rfl rfl (rp_move rfl rfl) ?_
      refine AQ.rp rfl rfl rfl (fun _ _ h => h) (rp_extract rfl rfl rfl) ?_
      refine AQ.rp rfl rfl rfl (fun _ _ h => h) (rp_extract rfl rfl rfl) ?_
      refine AQ.st rfl rfl (st_store_anyS inf95 rfl rfl rfl rfl rfl rfl rfl rfl (by first | decide | (simp; done) | (simp; omega)) rfl) ?_
      refine AQ.rp1 rfl rfl rfl (rp_assign rfl rfl) ?_
      refine AQ.nil ?_
      show Less _ _
      (try simp only [S.put, S.newObj, setL, V.cs, List.length_cons, List.length_nil, List.take_succ_cons, List.take_zero, List.drop_succ_cons, List.drop_zero, List.drop_nil, List.nil_append, List.cons_append, List.append_nil, Nat.zero_add, Nat.reduceAdd, List.map_cons, List.map_nil, List.set_cons_zero, List.set_cons_succ])
      simp only [S.dd, ddL, List.contains_cons, List.contains_nil, Nat.reduceBEq, beq_self_eq_true, Bool.or_false, Bool.or_true, Bool.false_or, Bool.true_or, Bool.or_self, if_true, if_false, Bool.false_eq_true, ↓reduceIte]
      exact (Less.of rfl (by repeat (first | exact trivial | refine ⟨⟨_, rfl, Wk.refl _⟩, ?_⟩)) (by repeat (first | exact trivial | refine ⟨rfl, ?_⟩)) rfl)
      (try simp only [S.put, S.newObj, setL, V.cs, List.length_cons, List.length_nil, List.take_succ_cons, List.take_zero, List.drop_succ_cons, List.drop_zero, List.drop_nil, List.nil_append, List.cons_append, List.append_nil, Nat.zero_add, Nat.reduceAdd, List.map_cons, List.map_nil, List.set_cons_zero, List.set_cons_succ])
      simp only [S.dd, ddL, List.contains_cons, List.contains_nil, Nat.reduceBEq, beq_self_eq_true, Bool.or_false, Bool.or_true, Bool.false_or, Bool.true_or, Bool.or_self, if_true, if_false, Bool.false_eq_true, ↓reduceIte]
      try simp only [thenS, S.put, S.newObj, setL, V.cs, List.length_cons, List.length_nil, List.take_succ_cons, List.take_zero, List.drop_succ_cons, List.drop_zero, List.drop_nil, List.nil_append, List.cons_append, List.append_nil, Nat.zero_add, Nat.reduceAdd, List.map_cons, List.map_nil, List.set_cons_zero, List.set_cons_succ]
      refine AW.seq ?_
      refine AW.draw [(0, true), (1, true), (2, true), (3, true), (4, true), (5, true), (6, true), (7, true), (8, false), (9, false)] (fun i => !([] : List Nat).contains i) 10 (by kernel_rfl) (by kernel_rfl) rfl (by kernel_rfl) ?_
      refine AD1.rp rfl rfl rfl (fun _ _ h => h) (rp_move rfl rfl) ?_
      (refine AD1.rp rfl rfl rfl (fun _ _ h => h) (rp_eqlT rfl rfl rfl (by first | assumption | omega | (dsimp only; omega))) ?_)
      refine AD1.rp rfl rfl rfl (fun _ _ h => h) (rp_move rfl rfl) ?_
      refine AD1.rdy rfl rfl rfl rfl (fun _ _ h => h) (rd_loads_ref Try.underlying95 rfl inf95 rfl rfl rfl rfl rfl rfl) ?_
      refine AD1.rpy rfl rfl rfl rfl (fun _ _ h => h) (rp_move rfl rfl) ?_
      refine AD1.rpy rfl rfl rfl rfl (fun _ _ h => h) (rp_move rfl rfl) ?_
      refine AD1.rpy rfl rfl rfl rfl (fun _ _ h => h) (rp_index_own Try.underlying92 inf95 rfl rfl rfl rfl (by first | assumption | omega)) ?_
      refine AD1.rdy rfl rfl rfl rfl (fun _ _ h => h) (rd_loads_flat Try.underlying95 rfl inf95 rfl rfl rfl rfl rfl (fun _ => rfl) (by assumption)) ?_
      refine AD1.go ?_
      (refine AD2.cally (post := ?pc12) rfl rfl rfl (sm_call (args := [_, _]) ?hc12 ⟨Try.func105, rfl, rfl, rfl, rfl⟩ rfl rfl rfl rfl) ?_; (case hc12 => (exact ht2)); rintro _ rfl -; try dsimp only)
      refine AD2.rp1 rfl rfl rfl (rp_pick rfl rfl rfl) ?_
      refine AD2.nil ?_
      try simp only [thenS, S.put, S.newObj, setL, V.cs, List.length_cons, List.length_nil, List.take_succ_cons, List.take_zero, List.drop_succ_cons, List.drop_zero, List.drop_nil, List.nil_append, List.cons_append, List.append_nil, Nat.zero_add, Nat.reduceAdd, List.map_cons, List.map_nil, List.set_cons_zero, List.set_cons_succ]
      refine AW.condF rfl ?_
      refine AW.skip ?_
      try simp only [thenS]
      refine AW.region ?_
      refine AL.rp rfl rfl (rp_add rfl rfl rfl (by first | omega | (dsimp only; omega))) ?_
      refine AL.rp rfl rfl (rp_move rfl rfl) ?_
      refine AL.nil ?_
      try simp only [thenS, S.put]
      refine ⟨_, ?_, ⟨i + 1, ag, L', by omega, hT', hsk, ht, rfl⟩, ?_⟩
      ·exact (Less.of rfl (by repeat (first | exact trivial | refine ⟨⟨_, rfl, Wk.refl _⟩, ?_⟩ | refine ⟨⟨_, rfl, Wk.nil _ _⟩, ?_⟩ | refine ⟨⟨_, rfl, Wk.junk _⟩, ?_⟩)) (by repeat (first | exact trivial | refine ⟨rfl, ?_⟩)) rfl)
      ·simp [S.nat, fnd]; omega
     ·by_cases hs : a + w ≤ 1000000000 ∧ b + 1 ≤ 1000000000
      ·have ht1 : Fn Try.prog 70 [.agg [.i (w : Int), .i 1], .agg [.i (a : Int), .i (b : Int)]] (fun v => v = .tup [.agg [.i ((a + w : Nat) : Int), .i ((b + 1 : Nat) : Int)], .i 0]) := Fn.eqv (am_Times_ok w a b (by omega) (by omega) (by omega) (by omega)) (by rw [show ((w : Int) + a) = ((a + w : Nat) : Int) by omega, show (1 + (b : Int)) = ((b + 1 : Nat) : Int) by omega])
       by_cases hlt : ltT (a + w) (b + 1) c d
       ·have ht2 := Fn.decT (am_TwLess ((a + w : Nat) : Int) ((b + 1 : Nat) : Int) c d) (by simp only [ltT] at hlt; omega)
        have hTn := hT'.set hG1 hab ha9 hcd hs.1 hs.2 hlt
        have hms := tmass_set hcd (show b + 1 ≤ 1000000001 by omega) (show d ≤ 1000000001 by simp only [inf] at hcdp; omega) hlt
        have hml : tmass L' ≤ tmass L := by
         cases ag with
         | false => rw [(hf rfl).1]; exact Nat.le_refl _
         | true => have := ht rfl; omega
        refine AW.seq ?_
        refine AW.region ?_
        (refine AL.rp rfl rfl (rp_lssT rfl rfl rfl (by first | assumption | omega | (dsimp only; omega))) ?_)
        refine AL.nil ?_
        try simp only [thenS, S.put]
        refine AW.seq ?_
        refine AW.condT rfl ?_
        refine AW.skip ?_
        try simp only [thenS]
        refine AW.seq ?_
        refine AW.block ?_
        refine AW.seq ?_
        refine AW.region ?_
        refine AL.rp rfl rfl (rp_index_map Try.underlying67 inf79 rfl rfl rfl rfl (by assumption)) ?_
        refine AL.rd rfl rfl (rd_loads_ad Try.underlying79 rfl inf79 rfl rfl rfl rfl) ?_
        refine AL.sm rfl (sm_alloc (l := [.d (.p (.int .i64 0)), .d (.p (.int .i64 0)), .d (.p (.int .i64 0)), .d (.p (.int .i64 0))]) 11 inf79 rfl (by simp [S.clean, S.put, S.newObj, S.forget, V.has, V.hasL, junkIf, setL, V.cs, hasL_i, hasL_b, hasL_s, hasL_n, hasL_rep, hasL_flat, hasL_append, -List.map_set]) rfl rfl) ?_
        refine AL.st rfl (st_store_any inf79 rfl rfl rfl rfl rfl rfl rfl rfl (by first | decide | (simp; done) | (simp; omega)) rfl) ?_
        refine AL.nil ?_
        try simp only [thenS, S.put, S.newObj, setL, V.cs, List.length_cons, List.length_nil, List.take_succ_cons, List.take_zero, List.drop_succ_cons, List.drop_zero, List.drop_nil, List.nil_append, List.cons_append, List.append_nil, Nat.zero_add, Nat.reduceAdd, List.map_cons, List.map_nil, List.set_cons_zero, List.set_cons_succ]
        refine AW.seq ?_
        refine AW.draw2 (N := ?N14) [0, 1, 2, 3, 4, 5, 6, 7] 8 12 [(9, true), (10, true), (11, true), (12, false), (13, false), (14, false)] [(8, false), (9, false), (10, true), (11, true), (13, false), (14, false)] (fun _ => true) 15 (by kernel_rfl) (by kernel_rfl) rfl rfl (by kernel_rfl) ?_ ?_
        rotate_left
        refine AB1.rp rfl rfl rfl (fun _ _ h => h) (rp_field_ref Try.underlying79 rfl rfl rfl inf3 (by decide) rfl) ?_
        refine AB1.rd rfl rfl rfl (fun _ _ h => h) (rd_load_ref Try.underlying3 rfl rfl rfl rfl rfl rfl) ?_
        refine AB1.rp rfl rfl rfl (fun _ _ h => h) (rp_build (vs := [(0, _), (1, _)]) (zs := [.d (.p (.int .i64 0)), .d (.p (.int .i64 0))]) pl95 inf95 rfl rfl rfl rfl) ?_
        refine AB1.rp rfl rfl rfl (fun _ _ h => h) (rp_move rfl rfl) ?_
        refine AB1.rp rfl rfl rfl (fun _ _ h => h) (rp_field_ref Try.underlying79 rfl rfl rfl inf3 (by decide) rfl) ?_
        refine AB1.rd rfl rfl rfl (fun _ _ h => h) (rd_load_ref Try.underlying3 rfl rfl rfl rfl rfl rfl) ?_
        refine AB1.rp rfl rfl rfl (fun _ _ h => h) (rp_index_own Try.underlying92 inf95 rfl rfl rfl rfl (by first | assumption | omega)) ?_
        refine AB1.rd rfl rfl rfl (fun _ _ h => h) (rd_loads_flat Try.underlying95 rfl inf95 rfl rfl rfl rfl rfl (fun _ => rfl) (by assumption)) ?_
        refine AB1.nil ?_ ?_
        refine AD2.call (post := ?pc14) rfl rfl (sm_call (args := [_, _]) ?hc14 ⟨Try.func70, rfl, rfl, rfl, rfl⟩ rfl rfl rfl rfl) ?_
        case hc14 => exact ht1
        rintro _ rfl -
        try dsimp only
        refine AD2.rp rfl rfl rfl (fun _ _ h => h) (rp_move rfl rfl) ?_
        refine AD2.rp rfl rfl rfl (fun _ _ h => h) (rp_extract rfl rfl rfl) ?_
        refine AD2.rp rfl rfl rfl (fun _ _ h => h) (rp_extract rfl rfl rfl) ?_
        refine AD2.new rfl rfl (sg_alloc (l := [.d (.p (.int .i64 0)), .d (.p (.int .i64 0))]) 12 inf95 rfl (by simp [S.clean, S.put, S.newObj, S.forget, V.has, V.hasL, junkIf, setL, V.cs, hasL_i, hasL_b, hasL_s, hasL_n, hasL_rep, hasL_flat, hasL_append, -List.map_set]) rfl rfl) ?_
        refine AQ.st rfl rfl (st_store_anyS inf95 rfl rfl rfl rfl rfl rfl rfl rfl (by first | decide | (simp; done) | (simp; omega)) rfl) ?_
        refine AQ.rp1 rfl rfl rfl (rp_assign rfl rfl) ?_
        refine AQ.nil ?_
        show Less _ _
        exact Less.dd _
        refine AD2.new rfl rfl (sg_alloc (l := [.d (.p (.int .i64 0)), .d (.p (.int .i64 0))]) 12 inf95 rfl (by simp [S.clean, S.put, S.newObj, S.forget, V.has, V.hasL, junkIf, setL, V.cs, hasL_i, hasL_b, hasL_s, hasL_n, hasL_rep, hasL_flat, hasL_append, -List.map_set]) rfl rfl) ?_
        refine AQ.call (post := ?pc15) rfl rfl (sk_call (args := [_, _]) ?hc15 ⟨Try.func70, rfl, rfl, rfl, rfl⟩ rfl rfl rfl rfl) ?_
        case hc15 => exact ht1
        rintro _ rfl -
        try dsimp only
        refine AQ.rp1 rfl rfl rfl (rp_move rfl rfl) ?_
        refine AQ.rp rfl rfl rfl (fun _ _ h => h) (rp_extract rfl rfl rfl) ?_
        refine AQ.rp rfl rfl rfl (fun _ _ h => h) (rp_extract rfl rfl rfl) ?_
        refine AQ.st rfl rfl (st_store_anyS inf95 rfl rfl rfl rfl rfl rfl rfl rfl (by first | decide | (simp; done) | (simp; omega)) rfl) ?_
        refine AQ.rp1 rfl rfl rfl (rp_assign rfl rfl) ?_
        refine AQ.nil ?_
        show Less _ _
        (try simp only [S.put, S.newObj, setL, V.cs, List.length_cons, List.length_nil, List.take_succ_cons, List.take_zero, List.drop_succ_cons, List.drop_zero, List.drop_nil, List.nil_append, List.cons_append, List.append_nil, Nat.zero_add, Nat.reduceAdd, List.map_cons, List.map_nil, List.set_cons_zero, List.set_cons_succ])
        simp only [S.dd, ddL, List.contains_cons, List.contains_nil, Nat.reduceBEq, beq_self_eq_true, Bool.or_false, Bool.or_true, Bool.false_or, Bool.true_or, Bool.or_self, if_true, if_false, Bool.false_eq_true, ↓reduceIte]
        exact (Less.of rfl (by repeat (first | exact trivial | refine ⟨⟨_, rfl, Wk.refl _⟩, ?_⟩)) (by repeat (first | exact trivial | refine ⟨rfl, ?_⟩)) rfl)
        (try simp only [S.put, S.newObj, setL, V.cs, List.length_cons, List.length_nil, List.take_succ_cons, List.take_zero, List.drop_succ_cons, List.drop_zero, List.drop_nil, List.nil_append, List.cons_append, List.append_nil, Nat.zero_add, Nat.reduceAdd, List.map_cons, List.map_nil, List.set_cons_zero, List.set_cons_succ])
        simp only [S.dd, ddL, List.contains_cons, List.contains_nil, Nat.reduceBEq, beq_self_eq_true, Bool.or_false, Bool.or_true, Bool.false_or, Bool.true_or, Bool.or_self, if_true, if_false, Bool.false_eq_true, ↓reduceIte]
        try simp only [thenS, S.put, S.newObj, setL, V.cs, List.length_cons, List.length_nil, List.take_succ_cons, List.take_zero, List.drop_succ_cons, List.drop_zero, List.drop_nil, List.nil_append, List.cons_append, List.append_nil, Nat.zero_add, Nat.reduceAdd, List.map_cons, List.map_nil, List.set_cons_zero, List.set_cons_succ]
        refine AW.seq ?_
        refine AW.draw [(0, true), (1, true), (2, true), (3, true), (4, true), (5, true), (6, true), (7, true), (8, false), (9, false)] (fun i => !([] : List Nat).contains i) 10 (by kernel_rfl) (by kernel_rfl) rfl (by kernel_rfl) ?_
        refine AD1.rp rfl rfl rfl (fun _ _ h => h) (rp_move rfl rfl) ?_
        (refine AD1.rp rfl rfl rfl (fun _ _ h => h) (rp_eqlT rfl rfl rfl (by first | assumption | omega | (dsimp only; omega))) ?_)
        refine AD1.rp rfl rfl rfl (fun _ _ h => h) (rp_move rfl rfl) ?_
        refine AD1.rdy rfl rfl rfl rfl (fun _ _ h => h) (rd_loads_ref Try.underlying95 rfl inf95 rfl rfl rfl rfl rfl rfl) ?_
        refine AD1.rpy rfl rfl rfl rfl (fun _ _ h => h) (rp_move rfl rfl) ?_
        refine AD1.rpy rfl rfl rfl rfl (fun _ _ h => h) (rp_move rfl rfl) ?_
        refine AD1.rpy rfl rfl rfl rfl (fun _ _ h => h) (rp_index_own Try.underlying92 inf95 rfl rfl rfl rfl (by first | assumption | omega)) ?_
        refine AD1.rdy rfl rfl rfl rfl (fun _ _ h => h) (rd_loads_flat Try.underlying95 rfl inf95 rfl rfl rfl rfl rfl (fun _ => rfl) (by assumption)) ?_
        refine AD1.go ?_
        (refine AD2.cally (post := ?pc16) rfl rfl rfl (sm_call (args := [_, _]) ?hc16 ⟨Try.func105, rfl, rfl, rfl, rfl⟩ rfl rfl rfl rfl) ?_; (case hc16 => (exact ht2)); rintro _ rfl -; try dsimp only)
        refine AD2.rp1 rfl rfl rfl (rp_pick rfl rfl rfl) ?_
        refine AD2.nil ?_
        try simp only [thenS, S.put, S.newObj, setL, V.cs, List.length_cons, List.length_nil, List.take_succ_cons, List.take_zero, List.drop_succ_cons, List.drop_zero, List.drop_nil, List.nil_append, List.cons_append, List.append_nil, Nat.zero_add, Nat.reduceAdd, List.map_cons, List.map_nil, List.set_cons_zero, List.set_cons_succ]
        refine AW.condT rfl ?_
        refine AW.seq ?_
        refine AW.region ?_
        refine AL.rp rfl rfl (rp_move rfl rfl) ?_
        refine AL.rp rfl rfl (rp_move rfl rfl) ?_
        refine AL.rd rfl rfl (rd_loads_ref Try.underlying95 rfl inf95 rfl rfl rfl rfl rfl rfl) ?_
        refine AL.rp rfl rfl (rp_index_own Try.underlying92 inf95 rfl rfl rfl rfl (by first | assumption | omega)) ?_
        refine AL.st rfl (st_stores_flat ((a + w, b + 1)) inf95 rfl rfl rfl rfl rfl rfl rfl (fun _ => rfl) (by first | assumption | omega | (simp; omega)) rfl) ?_
        refine AL.nil ?_
        try simp only [thenS, S.put, S.newObj, setL, V.cs, List.length_cons, List.length_nil, List.take_succ_cons, List.take_zero, List.drop_succ_cons, List.drop_zero, List.drop_nil, List.nil_append, List.cons_append, List.append_nil, Nat.zero_add, Nat.reduceAdd, List.map_cons, List.map_nil, List.set_cons_zero, List.set_cons_succ]
        refine AW.region ?_
        refine AL.rp rfl rfl (rp_assign rfl rfl) ?_
        refine AL.nil ?_
        try simp only [thenS, S.put]
        refine AW.region ?_
        refine AL.rp rfl rfl (rp_add rfl rfl rfl (by first | omega | (dsimp only; omega))) ?_
        refine AL.rp rfl rfl (rp_move rfl rfl) ?_
        refine AL.nil ?_
        try simp only [thenS, S.put]
        refine ⟨_, ?_, ⟨i + 1, true, L'.set q (a + w, b + 1), by omega, hTn, (fun h => by cases h), (fun _ => by omega), rfl⟩, ?_⟩
        ·exact (Less.of rfl (by repeat (first | exact trivial | refine ⟨⟨_, rfl, Wk.refl _⟩, ?_⟩ | refine ⟨⟨_, rfl, Wk.nil _ _⟩, ?_⟩ | refine ⟨⟨_, rfl, Wk.junk _⟩, ?_⟩)) (by repeat (first | exact trivial | refine ⟨rfl, ?_⟩)) rfl)
        ·simp [S.nat, fnd]; omega
       ·have hsk := hskip (fun _ _ _ => hlt)
        have ht2 := Fn.decF (am_TwLess ((a + w : Nat) : Int) ((b + 1 : Nat) : Int) c d) (by simp only [ltT] at hlt; omega)
        refine AW.seq ?_
        refine AW.region ?_
        (refine AL.rp rfl rfl (rp_lssT rfl rfl rfl (by first | assumption | omega | (dsimp only; omega))) ?_)
        refine AL.nil ?_
        try simp only [thenS, S.put]
        refine AW.seq ?_
        refine AW.condT rfl ?_
        refine AW.skip ?_
        try simp only [thenS]
        refine AW.seq ?_
        refine AW.block ?_
        refine AW.seq ?_
        refine AW.region ?_
        refine AL.rp rfl rfl (rp_index_map Try.underlying67 inf79 rfl rfl rfl rfl (by assumption)) ?_
        refine AL.rd rfl rfl (rd_loads_ad Try.underlying79 rfl inf79 rfl rfl rfl rfl) ?_
        refine AL.sm rfl (sm_alloc (l := [.d (.p (.int .i64 0)), .d (.p (.int .i64 0)), .d (.p (.int .i64 0)), .d (.p (.int .i64 0))]) 11 inf79 rfl (by simp [S.clean, S.put, S.newObj, S.forget, V.has, V.hasL, junkIf, setL, V.cs, hasL_i, hasL_b, hasL_s, hasL_n, hasL_rep, hasL_flat, hasL_append, -List.map_set]) rfl rfl) ?_
        refine AL.st rfl (st_store_any inf79 rfl rfl rfl rfl rfl rfl rfl rfl (by first | decide | (simp; done) | (simp; omega)) rfl) ?_
        refine AL.nil ?_
        try simp only [thenS, S.put, S.newObj, setL, V.cs, List.length_cons, List.length_nil, List.take_succ_cons, List.take_zero, List.drop_succ_cons, List.drop_zero, List.drop_nil, List.nil_append, List.cons_append, List.append_nil, Nat.zero_add, Nat.reduceAdd, List.map_cons, List.map_nil, List.set_cons_zero, List.set_cons_succ]
        refine AW.seq ?_
        refine AW.draw2 (N := ?N18) [0, 1, 2, 3, 4, 5, 6, 7] 8 12 [(9, true), (10, true), (11, true), (12, false), (13, false), (14, false)] [(8, false), (9, false), (10, true), (11, true), (13, false), (14, false)] (fun _ => true) 15 (by kernel_rfl) (by kernel_rfl) rfl rfl (by kernel_rfl) ?_ ?_
        rotate_left
        refine AB1.rp rfl rfl rfl (fun _ _ h => h) (rp_field_ref Try.underlying79 rfl rfl rfl inf3 (by decide) rfl) ?_
        refine AB1.rd rfl rfl rfl (fun _ _ h => h) (rd_load_ref Try.underlying3 rfl rfl rfl rfl rfl rfl) ?_
        refine AB1.rp rfl rfl rfl (fun _ _ h => h) (rp_build (vs := [(0, _), (1, _)]) (zs := [.d (.p (.int .i64 0)), .d (.p (.int .i64 0))]) pl95 inf95 rfl rfl rfl rfl) ?_
        refine AB1.rp rfl rfl rfl (fun _ _ h => h) (rp_move rfl rfl) ?_
        refine AB1.rp rfl rfl rfl (fun _ _ h => h) (rp_field_ref Try.underlying79 rfl rfl rfl inf3 (by decide) rfl) ?_
        refine AB1.rd rfl rfl rfl (fun _ _ h => h) (rd_load_ref Try.underlying3 rfl rfl rfl rfl rfl rfl) ?_
        refine AB1.rp rfl rfl rfl (fun _ _ h => h) (rp_index_own Try.underlying92 inf95 rfl rfl rfl rfl (by first | assumption | omega)) ?_
        refine AB1.rd rfl rfl rfl (fun _ _ h => h) (rd_loads_flat Try.underlying95 rfl inf95 rfl rfl rfl rfl rfl (fun _ => rfl) (by assumption)) ?_
        refine AB1.nil ?_ ?_
        refine AD2.call (post := ?pc18) rfl rfl (sm_call (args := [_, _]) ?hc18 ⟨Try.func70, rfl, rfl, rfl, rfl⟩ rfl rfl rfl rfl) ?_
        case hc18 => exact ht1
        rintro _ rfl -
        try dsimp only
        refine AD2.rp rfl rfl rfl (fun _ _ h => h) (rp_move rfl rfl) ?_
        refine AD2.rp rfl rfl rfl (fun _ _ h => h) (rp_extract rfl rfl rfl) ?_
        refine AD2.rp rfl rfl rfl (fun _ _ h => h) (rp_extract rfl rfl rfl) ?_
        refine AD2.new rfl rfl (sg_alloc (l := [.d (.p (.int .i64 0)), .d (.p (.int .i64 0))]) 12 inf95 rfl (by simp [S.clean, S.put, S.newObj, S.forget, V.has, V.hasL, junkIf, setL, V.cs, hasL_i, hasL_b, hasL_s, hasL_n, hasL_rep, hasL_flat, hasL_append, -List.map_set]) rfl rfl) ?_
        refine AQ.st rfl rfl (st_store_anyS inf95 rfl rfl rfl rfl rfl rfl rfl rfl (by first | decide | (simp; done) | (simp; omega)) rfl) ?_
        refine AQ.rp1 rfl rfl rfl (rp_assign rfl rfl) ?_
        refine AQ.nil ?_
        show Less _ _
        exact Less.dd _
        refine AD2.new rfl rfl (sg_alloc (l := [.d (.p (.int .i64 0)), .d (.p (.int .i64 0))]) 12 inf95 rfl (by simp [S.clean, S.put, S.newObj, S.forget, V.has, V.hasL, junkIf, setL, V.cs, hasL_i, hasL_b, hasL_s, hasL_n, hasL_rep, hasL_flat, hasL_append, -List.map_set]) rfl rfl) ?_
        refine AQ.call (post := ?pc19) rfl rfl (sk_call (args := [_, _]) ?hc19 ⟨Try.func70, rfl, rfl, rfl, rfl⟩ rfl rfl rfl rfl) ?_
        case hc19 => exact ht1
        rintro _ rfl -
        try dsimp only
        refine AQ.rp1 rfl rfl rfl (rp_move rfl rfl) ?_
        refine AQ.rp rfl rfl rfl (fun _ _ h => h) (rp_extract rfl rfl rfl) ?_
        refine AQ.rp rfl rfl rfl (fun _ _ h => h) (rp_extract rfl rfl rfl) ?_
        refine AQ.st rfl rfl (st_store_anyS inf95 rfl rfl rfl rfl rfl rfl rfl rfl (by first | decide | (simp; done) | (simp; omega)) rfl) ?_
        refine AQ.rp1 rfl rfl rfl (rp_assign rfl rfl) ?_
        refine AQ.nil ?_
        show Less _ _
        (try simp only [S.put, S.newObj, setL, V.cs, List.length_cons, List.length_nil, List.take_succ_cons, List.take_zero, List.drop_succ_cons, List.drop_zero, List.drop_nil, List.nil_append, List.cons_append, List.append_nil, Nat.zero_add, Nat.reduceAdd, List.map_cons, List.map_nil, List.set_cons_zero, List.set_cons_succ])
        simp only [S.dd, ddL, List.contains_cons, List.contains_nil, Nat.reduceBEq, beq_self_eq_true, Bool.or_false, Bool.or_true, Bool.false_or, Bool.true_or, Bool.or_self, if_true, if_false, Bool.false_eq_true, ↓reduceIte]
        exact (Less.of rfl (by repeat (first | exact trivial | refine ⟨⟨_, rfl, Wk.refl _⟩, ?_⟩)) (by repeat (first | exact trivial | refine ⟨rfl, ?_⟩)) rfl)
        (try simp only [S.put, S.newObj, setL, V.cs, List.length_cons, List.length_nil, List.take_succ_cons, List.take_zero, List.drop_succ_cons, List.drop_zero, List.drop_nil, List.nil_append, List.cons_append, List.append_nil, Nat.zero_add, Nat.reduceAdd, List.map_cons, List.map_nil, List.set_cons_zero, List.set_cons_succ])
        simp only [S.dd, ddL, List.contains_cons, List.contains_nil, Nat.reduceBEq, beq_self_eq_true, Bool.or_false, Bool.or_true, Bool.false_or, Bool.true_or, Bool.or_self, if_true, if_false, Bool.false_eq_true, ↓reduceIte]
        try simp only [thenS, S.put, S.newObj, setL, V.cs, List.length_cons, List.length_nil, List.take_succ_cons, List.take_zero, List.drop_succ_cons, List.drop_zero, List.drop_nil, List.nil_append, List.cons_append, List.append_nil, Nat.zero_add, Nat.reduceAdd, List.map_cons, List.map_nil, List.set_cons_zero, List.set_cons_succ]
        refine AW.seq ?_
        refine AW.draw [(0, true), (1, true), (2, true), (3, true), (4, true), (5, true), (6, true), (7, true), (8, false), (9, false)] (fun i => !([] : List Nat).contains i) 10 (by kernel_rfl) (by kernel_rfl) rfl (by kernel_rfl) ?_
        refine AD1.rp rfl rfl rfl (fun _ _ h => h) (rp_move rfl rfl) ?_
        (refine AD1.rp rfl rfl rfl (fun _ _ h => h) (rp_eqlT rfl rfl rfl (by first | assumption | omega | (dsimp only; omega))) ?_)
        refine AD1.rp rfl rfl rfl (fun _ _ h => h) (rp_move rfl rfl) ?_
        refine AD1.rdy rfl rfl rfl rfl (fun _ _ h => h) (rd_loads_ref Try.underlying95 rfl inf95 rfl rfl rfl rfl rfl rfl) ?_
        refine AD1.rpy rfl rfl rfl rfl (fun _ _ h => h) (rp_move rfl rfl) ?_
        refine AD1.rpy rfl rfl rfl rfl (fun _ _ h => h) (rp_move rfl rfl) ?_
        refine AD1.rpy rfl rfl rfl rfl (fun _ _ h => h) (rp_index_own Try.underlying92 inf95 rfl rfl rfl rfl (by first | assumption | omega)) ?_
        refine AD1.rdy rfl rfl rfl rfl (fun _ _ h => h) (rd_loads_flat Try.underlying95 rfl inf95 rfl rfl rfl rfl rfl (fun _ => rfl) (by assumption)) ?_
        refine AD1.go ?_
        (refine AD2.cally (post := ?pc20) rfl rfl rfl (sm_call (args := [_, _]) ?hc20 ⟨Try.func105, rfl, rfl, rfl, rfl⟩ rfl rfl rfl rfl) ?_; (case hc20 => (exact ht2)); rintro _ rfl -; try dsimp only)
        refine AD2.rp1 rfl rfl rfl (rp_pick rfl rfl rfl) ?_
        refine AD2.nil ?_
        try simp only [thenS, S.put, S.newObj, setL, V.cs, List.length_cons, List.length_nil, List.take_succ_cons, List.take_zero, List.drop_succ_cons, List.drop_zero, List.drop_nil, List.nil_append, List.cons_append, List.append_nil, Nat.zero_add, Nat.reduceAdd, List.map_cons, List.map_nil, List.set_cons_zero, List.set_cons_succ]
        refine AW.condF rfl ?_
        refine AW.skip ?_
        try simp only [thenS]
        refine AW.region ?_
        refine AL.rp rfl rfl (rp_add rfl rfl rfl (by first | omega | (dsimp only; omega))) ?_
        refine AL.rp rfl rfl (rp_move rfl rfl) ?_
        refine AL.nil ?_
        try simp only [thenS, S.put]
        refine ⟨_, ?_, ⟨i + 1, ag, L', by omega, hT', hsk, ht, rfl⟩, ?_⟩
        ·exact (Less.of rfl (by repeat (first | exact trivial | refine ⟨⟨_, rfl, Wk.refl _⟩, ?_⟩ | refine ⟨⟨_, rfl, Wk.nil _ _⟩, ?_⟩ | refine ⟨⟨_, rfl, Wk.junk _⟩, ?_⟩)) (by repeat (first | exact trivial | refine ⟨rfl, ?_⟩)) rfl)
        ·simp [S.nat, fnd]; omega
      ·have hsk := hskip (fun _ h1 h2 => absurd ⟨h1, h2⟩ hs)
       have ht1 := am_Times_over (w : Int) a b (by omega) (by omega) (by omega) (by omega)
       refine AW.seq ?_
       refine AW.region ?_
       (refine AL.rp rfl rfl (rp_lssT rfl rfl rfl (by first | assumption | omega | (dsimp only; omega))) ?_)
       refine AL.nil ?_
       try simp only [thenS, S.put]
       refine AW.seq ?_
       refine AW.condT rfl ?_
       refine AW.skip ?_
       try simp only [thenS]
       refine AW.seq ?_
       refine AW.block ?_
       refine AW.seq ?_
       refine AW.region ?_
       refine AL.rp rfl rfl (rp_index_map Try.underlying67 inf79 rfl rfl rfl rfl (by assumption)) ?_
       refine AL.rd rfl rfl (rd_loads_ad Try.underlying79 rfl inf79 rfl rfl rfl rfl) ?_
       refine AL.sm rfl (sm_alloc (l := [.d (.p (.int .i64 0)), .d (.p (.int .i64 0)), .d (.p (.int .i64 0)), .d (.p (.int .i64 0))]) 11 inf79 rfl (by simp [S.clean, S.put, S.newObj, S.forget, V.has, V.hasL, junkIf, setL, V.cs, hasL_i, hasL_b, hasL_s, hasL_n, hasL_rep, hasL_flat, hasL_append, -List.map_set]) rfl rfl) ?_
       refine AL.st rfl (st_store_any inf79 rfl rfl rfl rfl rfl rfl rfl rfl (by first | decide | (simp; done) | (simp; omega)) rfl) ?_
       refine AL.nil ?_
       try simp only [thenS, S.put, S.newObj, setL, V.cs, List.length_cons, List.length_nil, List.take_succ_cons, List.take_zero, List.drop_succ_cons, List.drop_zero, List.drop_nil, List.nil_append, List.cons_append, List.append_nil, Nat.zero_add, Nat.reduceAdd, List.map_cons, List.map_nil, List.set_cons_zero, List.set_cons_succ]
       refine AW.seq ?_
       refine AW.draw2 (N := ?N22) [0, 1, 2, 3, 4, 5, 6, 7] 8 12 [(9, true), (10, true), (11, true), (12, false), (13, false), (14, false)] [(8, false), (9, false), (10, true), (11, true), (13, false), (14, false)] (fun _ => true) 15 (by kernel_rfl) (by kernel_rfl) rfl rfl (by kernel_rfl) ?_ ?_
       rotate_left
       refine AB1.rp rfl rfl rfl (fun _ _ h => h) (rp_field_ref Try.underlying79 rfl rfl rfl inf3 (by decide) rfl) ?_
       refine AB1.rd rfl rfl rfl (fun _ _ h => h) (rd_load_ref Try.underlying3 rfl rfl rfl rfl rfl rfl) ?_
       refine AB1.rp rfl rfl rfl (fun _ _ h => h) (rp_build (vs := [(0, _), (1, _)]) (zs := [.d (.p (.int .i64 0)), .d (.p (.int .i64 0))]) pl95 inf95 rfl rfl rfl rfl) ?_
       refine AB1.rp rfl rfl rfl (fun _ _ h => h) (rp_move rfl rfl) ?_
       refine AB1.rp rfl rfl rfl (fun _ _ h => h) (rp_field_ref Try.underlying79 rfl rfl rfl inf3 (by decide) rfl) ?_
       refine AB1.rd rfl rfl rfl (fun _ _ h => h) (rd_load_ref Try.underlying3 rfl rfl rfl rfl rfl rfl) ?_
       refine AB1.rp rfl rfl rfl (fun _ _ h => h) (rp_index_own Try.underlying92 inf95 rfl rfl rfl rfl (by first | assumption | omega)) ?_
       refine AB1.rd rfl rfl rfl (fun _ _ h => h) (rd_loads_flat Try.underlying95 rfl inf95 rfl rfl rfl rfl rfl (fun _ => rfl) (by assumption)) ?_
       refine AB1.nil ?_ ?_
       refine AD2.call (post := ?pc22) rfl rfl (sm_call (args := [_, _]) ?hc22 ⟨Try.func70, rfl, rfl, rfl, rfl⟩ rfl rfl rfl rfl) ?_
       case hc22 => exact ht1
       rintro _ rfl -
       try dsimp only
       refine AD2.rp rfl rfl rfl (fun _ _ h => h) (rp_move rfl rfl) ?_
       refine AD2.rp rfl rfl rfl (fun _ _ h => h) (rp_extract rfl rfl rfl) ?_
       refine AD2.rp rfl rfl rfl (fun _ _ h => h) (rp_extract rfl rfl rfl) ?_
       refine AD2.new rfl rfl (sg_alloc (l := [.d (.p (.int .i64 0)), .d (.p (.int .i64 0))]) 12 inf95 rfl (by simp [S.clean, S.put, S.newObj, S.forget, V.has, V.hasL, junkIf, setL, V.cs, hasL_i, hasL_b, hasL_s, hasL_n, hasL_rep, hasL_flat, hasL_append, -List.map_set]) rfl rfl) ?_
       refine AQ.st rfl rfl (st_store_anyS inf95 rfl rfl rfl rfl rfl rfl rfl rfl (by first | decide | (simp; done) | (simp; omega)) rfl) ?_
       refine AQ.rp1 rfl rfl rfl (rp_assign rfl rfl) ?_
       refine AQ.nil ?_
       show Less _ _
       exact Less.dd _
       refine AD2.new rfl rfl (sg_alloc (l := [.d (.p (.int .i64 0)), .d (.p (.int .i64 0))]) 12 inf95 rfl (by simp [S.clean, S.put, S.newObj, S.forget, V.has, V.hasL, junkIf, setL, V.cs, hasL_i, hasL_b, hasL_s, hasL_n, hasL_rep, hasL_flat, hasL_append, -List.map_set]) rfl rfl) ?_
       refine AQ.call (post := ?pc23) rfl rfl (sk_call (args := [_, _]) ?hc23 ⟨Try.func70, rfl, rfl, rfl, rfl⟩ rfl rfl rfl rfl) ?_
       case hc23 => exact ht1
       rintro _ rfl -
       try dsimp only
       refine AQ.rp1 rfl rfl rfl (rp_move rfl rfl) ?_
       refine AQ.rp rfl rfl rfl (fun _ _ h => h) (rp_extract rfl rfl rfl) ?_
       refine AQ.rp rfl rfl rfl (fun _ _ h => h) (rp_extract rfl rfl rfl) ?_
       refine AQ.st rfl rfl (st_store_anyS inf95 rfl rfl rfl rfl rfl rfl rfl rfl (by first | decide | (simp; done) | (simp; omega)) rfl) ?_
       refine AQ.rp1 rfl rfl rfl (rp_assign rfl rfl) ?_
       refine AQ.nil ?_
       show Less _ _
       (try simp only [S.put, S.newObj, setL, V.cs, List.length_cons, List.length_nil, List.take_succ_cons, List.take_zero, List.drop_succ_cons, List.drop_zero, List.drop_nil, List.nil_append, List.cons_append, List.append_nil, Nat.zero_add, Nat.reduceAdd, List.map_cons, List.map_nil, List.set_cons_zero, List.set_cons_succ])
       simp only [S.dd, ddL, List.contains_cons, List.contains_nil, Nat.reduceBEq, beq_self_eq_true, Bool.or_false, Bool.or_true, Bool.false_or, Bool.true_or, Bool.or_self, if_true, if_false, Bool.false_eq_true, ↓reduceIte]
       exact (Less.of rfl (by repeat (first | exact trivial | refine ⟨⟨_, rfl, Wk.refl _⟩, ?_⟩)) (by repeat (first | exact trivial | refine ⟨rfl, ?_⟩)) rfl)
       (try simp only [S.put, S.newObj, setL, V.cs, List.length_cons, List.length_nil, List.take_succ_cons, List.take_zero, List.drop_succ_cons, List.drop_zero, List.drop_nil, List.nil_append, List.cons_append, List.append_nil, Nat.zero_add, Nat.reduceAdd, List.map_cons, List.map_nil, List.set_cons_zero, List.set_cons_succ])
       simp only [S.dd, ddL, List.contains_cons, List.contains_nil, Nat.reduceBEq, beq_self_eq_true, Bool.or_false, Bool.or_true, Bool.false_or, Bool.true_or, Bool.or_self, if_true, if_false, Bool.false_eq_true, ↓reduceIte]
       try simp only [thenS, S.put, S.newObj, setL, V.cs, List.length_cons, List.length_nil, List.take_succ_cons, List.take_zero, List.drop_succ_cons, List.drop_zero, List.drop_nil, List.nil_append, List.cons_append, List.append_nil, Nat.zero_add, Nat.reduceAdd, List.map_cons, List.map_nil, List.set_cons_zero, List.set_cons_succ]
       refine AW.seq ?_
       refine AW.draw [(0, true), (1, true), (2, true), (3, true), (4, true), (5, true), (6, true), (7, true), (8, false), (9, false)] (fun i => !([] : List Nat).contains i) 10 (by kernel_rfl) (by kernel_rfl) rfl (by kernel_rfl) ?_
       refine AD1.rp rfl rfl rfl (fun _ _ h => h) (rp_move rfl rfl) ?_
       (refine AD1.rp rfl rfl rfl (fun _ _ h => h) (rp_eqlF rfl rfl rfl (by first | assumption | omega | (dsimp only; omega))) ?_)
       refine AD1.rp rfl rfl rfl (fun _ _ h => h) (rp_move rfl rfl) ?_
       refine AD1.noV rfl rfl rfl rfl rfl (fun _ _ h => h) ?_
       refine AD1.noV rfl rfl rfl rfl rfl (fun _ _ h => h) ?_
       refine AD1.noV rfl rfl rfl rfl rfl (fun _ _ h => h) ?_
       refine AD1.noV rfl rfl rfl rfl rfl (fun _ _ h => h) ?_
       refine AD1.noV rfl rfl rfl rfl rfl (fun _ _ h => h) ?_
       refine AD1.go ?_
       refine AD2.noV1 rfl rfl rfl rfl rfl ?_
       refine AD2.rp1 rfl rfl rfl (rp_pick rfl rfl rfl) ?_
       refine AD2.nil ?_
       try simp only [thenS, S.put]
       refine AW.condF rfl ?_
       refine AW.skip ?_
       try simp only [thenS]
       refine AW.region ?_
       refine AL.rp rfl rfl (rp_add rfl rfl rfl (by first | omega | (dsimp only; omega))) ?_
       refine AL.rp rfl rfl (rp_move rfl rfl) ?_
       refine AL.nil ?_
       try simp only [thenS, S.put]
       refine ⟨_, ?_, ⟨i + 1, ag, L', by omega, hT', hsk, ht, rfl⟩, ?_⟩
       ·exact (Less.of rfl (by repeat (first | exact trivial | refine ⟨⟨_, rfl, Wk.refl _⟩, ?_⟩ | refine ⟨⟨_, rfl, Wk.nil _ _⟩, ?_⟩ | refine ⟨⟨_, rfl, Wk.junk _⟩, ?_⟩)) (by repeat (first | exact trivial | refine ⟨rfl, ?_⟩)) rfl)
       ·simp [S.nat, fnd]; omega
    ·have hf' : ag = false → L' = L ∧ Twc G (fun _ q' _ => q' < q + 1) L := fun h => by
      obtain ⟨h1, h2⟩ := hf h
      refine ⟨h1, fun p' q' w' a' b' c' d' h3 h4 => ?_⟩
      by_cases e : q' = q
      ·subst e
       obtain ⟨j, z, h5, h6, h7⟩ := edge_q h4
       exact h2 p' q' w' a' b' c' d' (.inr ⟨rfl, j, z, by have := (List.getElem?_eq_some_iff.1 h5).1; omega, h5, h6, h7⟩) h4
      ·exact h2 p' q' w' a' b' c' d' (.inl (by omega)) h4
     refine AW.seq ?_
     refine AW.region ?_
     (refine AL.rp rfl rfl (rp_lssF rfl rfl rfl (by first | assumption | omega | (dsimp only; omega))) ?_)
     refine AL.nil ?_
     try simp only [thenS, S.put]
     refine AW.seq ?_
     refine AW.condF rfl ?_
     refine AW.exit ?_
     try simp only [thenS, inBlockS, ↓reduceIte, Nat.reduceEqDiff]
     refine AW.region ?_
     refine AL.rp rfl rfl (rp_add rfl rfl rfl (by first | omega | (dsimp only; omega))) ?_
     refine AL.rp rfl rfl (rp_move rfl rfl) ?_
     refine AL.nil ?_
     try simp only [thenS, S.put]
     refine ⟨_, ?_, ⟨q + 1, ag, L', by omega, hT', hf', ht, rfl⟩, ?_⟩
     ·exact (Less.of rfl (by repeat (first | exact trivial | refine ⟨⟨_, rfl, Wk.refl _⟩, ?_⟩ | refine ⟨⟨_, rfl, Wk.nil _ _⟩, ?_⟩ | refine ⟨⟨_, rfl, Wk.junk _⟩, ?_⟩)) (by repeat (first | exact trivial | refine ⟨rfl, ?_⟩)) rfl)
     ·simp [S.nat, fnd]; omega
   ·skip
    refine AW.seq ?_
    refine AW.region ?_
    (refine AL.rp rfl rfl (rp_lssF rfl rfl rfl (by first | assumption | omega | (dsimp only; omega))) ?_)
    refine AL.nil ?_
    try simp only [thenS, S.put]
    refine AW.seq ?_
    refine AW.condF rfl ?_
    refine AW.exit ?_
    try simp only [thenS, inBlockS, ↓reduceIte, Nat.reduceEqDiff]
    cases ag with
    | false =>
     obtain ⟨rfl, hc⟩ := hf rfl
     refine ⟨_, _, ?_, ⟨false, L', hT', (fun _ p' q' w' a' b' c' d' _ h4 => hc p' q' w' a' b' c' d' (by
      obtain ⟨x, j, a, h1, h2, h3, h5⟩ := hed.1 h4
      have := (List.getElem?_eq_some_iff.1 h1).1
      omega) h4), rfl, rfl⟩, ?_⟩
     ·exact (Less.of rfl (by repeat (first | exact trivial | refine ⟨⟨_, rfl, Wk.refl _⟩, ?_⟩ | refine ⟨⟨_, rfl, Wk.nil _ _⟩, ?_⟩ | refine ⟨⟨_, rfl, Wk.junk _⟩, ?_⟩)) (by repeat (first | exact trivial | refine ⟨rfl, ?_⟩)) rfl)
     ·simp
    | true =>
     have := ht rfl
     refine ⟨_, _, ?_, ⟨true, L', hT', (fun h => by cases h), rfl, rfl⟩, ?_⟩
     ·exact (Less.of rfl (by repeat (first | exact trivial | refine ⟨⟨_, rfl, Wk.refl _⟩, ?_⟩ | refine ⟨⟨_, rfl, Wk.nil _ _⟩, ?_⟩ | refine ⟨⟨_, rfl, Wk.junk _⟩, ?_⟩)) (by repeat (first | exact trivial | refine ⟨rfl, ?_⟩)) rfl)
     ·simp; omega
end Go.Proofs.Ytnpbdcjfealoeaa
