/- distance.Least and the document's. -/
import Derived.Test.YtnpbdcjfealoeaaAmEnds
namespace Go.Proofs.Ytnpbdcjfealoeaa
open Go.RowKit
set_option linter.unusedSimpArgs false
set_option linter.unusedVariables false
set_option maxRecDepth 100000

theorem am_inf0 : Fn Try.prog 104 [.i 0] (fun v => v = .i 1000000001) := by
 refine Fn.intro (n := 5) ⟨Try.func104, rfl, rfl, rfl, rfl⟩ (by simp [V.pure, V.has, V.hasL]) (by simp) fun w0 out => ?_
 refine AW.seq ?_
 refine AW.region ?_
 refine AL.rp rfl rfl (rp_assign rfl rfl) ?_
 refine AL.nil ?_
 try simp only [thenS, S.put, enum, List.nil_append, List.cons_append, List.append_nil, Nat.zero_add, Nat.reduceAdd]
 refine AW.seq ?_
 refine AW.seq ?_
 refine AW.region ?_
 refine AL.rp rfl rfl (rp_move rfl rfl) ?_
 (first | (refine AL.rp rfl rfl (rp_neqT rfl rfl rfl (by first | assumption | omega | (dsimp only; omega))) ?_) | (refine AL.rp rfl rfl (rp_neqF rfl rfl rfl (by first | assumption | omega | (dsimp only; omega))) ?_) | (refine AL.rp rfl rfl (rp_neq rfl rfl rfl) ?_))
 refine AL.nil ?_
 try simp only [thenS, S.put]
 refine AW.condF rfl ?_
 refine AW.skip ?_
 try simp only [thenS]
 refine AW.seq ?_
 refine AW.region ?_
 refine AL.rp rfl rfl (rp_assign rfl rfl) ?_
 refine AL.nil ?_
 try simp only [thenS, S.put]
 refine AW.ret ?_
 exact ⟨[_], ⟨rfl, trivial⟩, rfl, by simp [tupOf, V.pure, V.has]⟩
theorem am_infE (e : Int) (h : e ≠ 0) : Fn Try.prog 104 [.i e] (fun v => v = .i 0) := by
 refine Fn.intro (n := 5) ⟨Try.func104, rfl, rfl, rfl, rfl⟩ (by simp [V.pure, V.has, V.hasL]) (by simp) fun w0 out => ?_
 refine AW.seq ?_
 refine AW.region ?_
 refine AL.rp rfl rfl (rp_assign rfl rfl) ?_
 refine AL.nil ?_
 try simp only [thenS, S.put, enum, List.nil_append, List.cons_append, List.append_nil, Nat.zero_add, Nat.reduceAdd]
 refine AW.seq ?_
 refine AW.seq ?_
 refine AW.region ?_
 refine AL.rp rfl rfl (rp_move rfl rfl) ?_
 (first | (refine AL.rp rfl rfl (rp_neqT rfl rfl rfl (by first | assumption | omega | (dsimp only; omega))) ?_) | (refine AL.rp rfl rfl (rp_neqF rfl rfl rfl (by first | assumption | omega | (dsimp only; omega))) ?_) | (refine AL.rp rfl rfl (rp_neq rfl rfl rfl) ?_))
 refine AL.nil ?_
 try simp only [thenS, S.put]
 refine AW.condT rfl ?_
 refine AW.seq ?_
 refine AW.region ?_
 refine AL.rp rfl rfl (rp_assign rfl rfl) ?_
 refine AL.nil ?_
 try simp only [thenS, S.put]
 refine AW.ret ?_
 exact ⟨[_], ⟨rfl, trivial⟩, rfl, by simp [tupOf, V.pure, V.has]⟩
/-- What the cheapest path costs. -/
noncomputable def leastV (m : Mach) : Int := if disE (enD m) m ≠ 0 then 0 else if m.start < 0 then 1000000001 else (((disL (enD m) m).getD m.start.toNat 0 : Nat) : Int)
theorem dis_mach {D : List Nat} {m : Mach} (h : disE D m = 0) : machE m = 0 := by
 unfold disE at h
 by_cases h0 : machE m = 0
 ·exact h0
 ·rw [if_pos h0] at h; exact absurd h h0
theorem am_Least (m : Mach) : Fn Try.prog 68 [mV m] (fun v => v = .tup [.i (leastV m), .i (disE (enD m) m)]) := by
 by_cases he : disE (enD m) m = 0
 ·obtain ⟨h60, _, hst, _⟩ := machE_zero (dis_mach he)
  have hcon := resI_eq (am_Ends0 m) he
  have hlen : (disL (enD m) m).length = m.states.length := by unfold disL; rw [if_pos he]; simp [enD, dstL]
  have hV : leastV m = if m.start < 0 then 1000000001 else (((disL (enD m) m).getD m.start.toNat 0 : Nat) : Int) := by unfold leastV; rw [if_neg (by simp [he])]
  obtain ⟨L, hL⟩ : ∃ L, disL (enD m) m = L := ⟨_, rfl⟩
  rw [hL] at hcon hlen hV
  rw [he, hV]
  obtain ⟨st, sts⟩ := m
  simp only at hst hlen ⊢
  by_cases hs : st < 0
  ·rw [if_pos hs]
   refine Fn.intro (n := 26) ⟨Try.func68, rfl, rfl, rfl, rfl⟩ (by simp [V.pure, V.has, V.hasL]) (by simp) fun w0 out => ?_
   refine AW.seq ?_
   refine AW.region ?_
   refine AL.sm rfl (sm_box 1 rfl rfl rfl (by first | rfl | simp [S.clean, S.put, S.newObj, S.forget, V.has, V.hasL, junkIf, setL, V.cs, hasL_i, hasL_b, hasL_s, hasL_n, hasL_rep, hasL_flat, hasL_append, -List.map_set]) rfl) ?_
   refine AL.rp rfl rfl (rp_assign rfl rfl) ?_
   refine AL.rp rfl rfl (rp_assign rfl rfl) ?_
   refine AL.nil ?_
   try simp only [thenS, S.put, S.newObj, setL, V.cs, List.length_cons, List.length_nil, List.take_succ_cons, List.take_zero, List.drop_succ_cons, List.drop_zero, List.drop_nil, List.nil_append, List.cons_append, List.append_nil, Nat.zero_add, Nat.reduceAdd, List.map_cons, List.map_nil, List.set_cons_zero, List.set_cons_succ, enum]
   refine AW.seq ?_
   refine AW.region ?_
   (first | (refine AL.rd rfl rfl (rd_loads_ref Try.underlying24 rfl inf24 rfl rfl rfl rfl rfl rfl) ?_) | (refine AL.rd rfl rfl (rd_loads_ad Try.underlying24 rfl inf24 rfl rfl rfl rfl) ?_))
   refine AL.call (post := ?pc14) rfl (sm_call (args := [_]) ?hc14 ⟨Try.func65, rfl, rfl, rfl, rfl⟩ rfl rfl rfl rfl) ?_
   case hc14 => exact hcon
   rintro _ rfl -
   try dsimp only
   refine AL.rp rfl rfl (rp_move rfl rfl) ?_
   refine AL.rp rfl rfl (rp_extract rfl rfl rfl) ?_
   refine AL.rp rfl rfl (rp_extract rfl rfl rfl) ?_
   refine AL.rp rfl rfl (rp_assign rfl rfl) ?_
   refine AL.rp rfl rfl (rp_assign rfl rfl) ?_
   refine AL.nil ?_
   try simp only [thenS, S.put, S.newObj, setL, V.cs, List.length_cons, List.length_nil, List.take_succ_cons, List.take_zero, List.drop_succ_cons, List.drop_zero, List.drop_nil, List.nil_append, List.cons_append, List.append_nil, Nat.zero_add, Nat.reduceAdd, List.map_cons, List.map_nil, List.set_cons_zero, List.set_cons_succ]
   refine AW.seq ?_
   refine AW.seq ?_
   refine AW.region ?_
   refine AL.rp rfl rfl (rp_move rfl rfl) ?_
   (first | (refine AL.rp rfl rfl (rp_neqT rfl rfl rfl (by first | assumption | omega | (dsimp only; omega))) ?_) | (refine AL.rp rfl rfl (rp_neqF rfl rfl rfl (by first | assumption | omega | (dsimp only; omega))) ?_) | (refine AL.rp rfl rfl (rp_neq rfl rfl rfl) ?_))
   refine AL.rp rfl rfl (rp_move rfl rfl) ?_
   (first | (refine AL.no rfl rfl rfl rfl ?_) | (refine AL.rpy rfl rfl rfl (rp_field_ref Try.underlying24 rfl rfl rfl inf3 (by decide) rfl) ?_) | (refine AL.rpy rfl rfl rfl (rp_field_ad Try.underlying24 rfl rfl rfl inf3 (by decide) rfl) ?_))
   (first | (refine AL.no rfl rfl rfl rfl ?_) | (refine AL.rdy rfl rfl rfl (rd_load_ref Try.underlying3 rfl rfl rfl rfl rfl rfl) ?_) | (refine AL.rdy rfl rfl rfl (rd_load_ad Try.underlying3 rfl rfl rfl rfl) ?_) | (refine AL.rdy rfl rfl rfl (rd_load_map Try.underlying3 rfl rfl rfl rfl rfl rfl (by assumption)) ?_))
   (first | (refine AL.no rfl rfl rfl rfl ?_) | (refine AL.rpy rfl rfl rfl (rp_lssT rfl rfl rfl (by first | assumption | omega | (dsimp only; omega))) ?_) | (refine AL.rpy rfl rfl rfl (rp_lssF rfl rfl rfl (by first | assumption | omega | (dsimp only; omega))) ?_) | (refine AL.rpy rfl rfl rfl (rp_lss rfl rfl rfl) ?_))
   refine AL.rp rfl rfl (rp_pick rfl rfl rfl) ?_
   refine AL.nil ?_
   try simp only [thenS, S.put]
   refine AW.condT rfl ?_
   refine AW.seq ?_
   refine AW.region ?_
   refine AL.rp rfl rfl (rp_move rfl rfl) ?_
   refine AL.call (post := ?pc15) rfl (sm_call (args := [_]) ?hc15 ⟨Try.func104, rfl, rfl, rfl, rfl⟩ rfl rfl rfl rfl) ?_
   case hc15 => exact am_inf0
   rintro _ rfl -
   try dsimp only
   refine AL.rp rfl rfl (rp_move rfl rfl) ?_
   refine AL.rp rfl rfl (rp_assign rfl rfl) ?_
   refine AL.rp rfl rfl (rp_assign rfl rfl) ?_
   refine AL.nil ?_
   try simp only [thenS, S.put, S.newObj, setL, V.cs, List.length_cons, List.length_nil, List.take_succ_cons, List.take_zero, List.drop_succ_cons, List.drop_zero, List.drop_nil, List.nil_append, List.cons_append, List.append_nil, Nat.zero_add, Nat.reduceAdd, List.map_cons, List.map_nil, List.set_cons_zero, List.set_cons_succ]
   refine AW.ret ?_
   exact ⟨[_, _], ⟨rfl, rfl, trivial⟩, rfl, by simp [tupOf, V.pure, V.has, V.hasL]⟩
  ·rw [if_neg hs]
   obtain ⟨p, rfl⟩ : ∃ p : Nat, st = p := ⟨st.toNat, by omega⟩
   obtain ⟨x, hx⟩ := get_lt hlen (show p < sts.length by omega)
   have hd : L.getD p 0 = x := by simp [List.getD_eq_getElem?_getD, hx]
   rw [Int.toNat_natCast, hd]
   refine Fn.intro (n := 26) ⟨Try.func68, rfl, rfl, rfl, rfl⟩ (by simp [V.pure, V.has, V.hasL]) (by simp) fun w0 out => ?_
   refine AW.seq ?_
   refine AW.region ?_
   refine AL.sm rfl (sm_box 1 rfl rfl rfl (by first | rfl | simp [S.clean, S.put, S.newObj, S.forget, V.has, V.hasL, junkIf, setL, V.cs, hasL_i, hasL_b, hasL_s, hasL_n, hasL_rep, hasL_flat, hasL_append, -List.map_set]) rfl) ?_
   refine AL.rp rfl rfl (rp_assign rfl rfl) ?_
   refine AL.rp rfl rfl (rp_assign rfl rfl) ?_
   refine AL.nil ?_
   try simp only [thenS, S.put, S.newObj, setL, V.cs, List.length_cons, List.length_nil, List.take_succ_cons, List.take_zero, List.drop_succ_cons, List.drop_zero, List.drop_nil, List.nil_append, List.cons_append, List.append_nil, Nat.zero_add, Nat.reduceAdd, List.map_cons, List.map_nil, List.set_cons_zero, List.set_cons_succ, enum]
   refine AW.seq ?_
   refine AW.region ?_
   (first | (refine AL.rd rfl rfl (rd_loads_ref Try.underlying24 rfl inf24 rfl rfl rfl rfl rfl rfl) ?_) | (refine AL.rd rfl rfl (rd_loads_ad Try.underlying24 rfl inf24 rfl rfl rfl rfl) ?_))
   refine AL.call (post := ?pc16) rfl (sm_call (args := [_]) ?hc16 ⟨Try.func65, rfl, rfl, rfl, rfl⟩ rfl rfl rfl rfl) ?_
   case hc16 => exact hcon
   rintro _ rfl -
   try dsimp only
   refine AL.rp rfl rfl (rp_move rfl rfl) ?_
   refine AL.rp rfl rfl (rp_extract rfl rfl rfl) ?_
   refine AL.rp rfl rfl (rp_extract rfl rfl rfl) ?_
   refine AL.rp rfl rfl (rp_assign rfl rfl) ?_
   refine AL.rp rfl rfl (rp_assign rfl rfl) ?_
   refine AL.nil ?_
   try simp only [thenS, S.put, S.newObj, setL, V.cs, List.length_cons, List.length_nil, List.take_succ_cons, List.take_zero, List.drop_succ_cons, List.drop_zero, List.drop_nil, List.nil_append, List.cons_append, List.append_nil, Nat.zero_add, Nat.reduceAdd, List.map_cons, List.map_nil, List.set_cons_zero, List.set_cons_succ]
   refine AW.seq ?_
   refine AW.seq ?_
   refine AW.region ?_
   refine AL.rp rfl rfl (rp_move rfl rfl) ?_
   (first | (refine AL.rp rfl rfl (rp_neqT rfl rfl rfl (by first | assumption | omega | (dsimp only; omega))) ?_) | (refine AL.rp rfl rfl (rp_neqF rfl rfl rfl (by first | assumption | omega | (dsimp only; omega))) ?_) | (refine AL.rp rfl rfl (rp_neq rfl rfl rfl) ?_))
   refine AL.rp rfl rfl (rp_move rfl rfl) ?_
   (first | (refine AL.no rfl rfl rfl rfl ?_) | (refine AL.rpy rfl rfl rfl (rp_field_ref Try.underlying24 rfl rfl rfl inf3 (by decide) rfl) ?_) | (refine AL.rpy rfl rfl rfl (rp_field_ad Try.underlying24 rfl rfl rfl inf3 (by decide) rfl) ?_))
   (first | (refine AL.no rfl rfl rfl rfl ?_) | (refine AL.rdy rfl rfl rfl (rd_load_ref Try.underlying3 rfl rfl rfl rfl rfl rfl) ?_) | (refine AL.rdy rfl rfl rfl (rd_load_ad Try.underlying3 rfl rfl rfl rfl) ?_) | (refine AL.rdy rfl rfl rfl (rd_load_map Try.underlying3 rfl rfl rfl rfl rfl rfl (by assumption)) ?_))
   (first | (refine AL.no rfl rfl rfl rfl ?_) | (refine AL.rpy rfl rfl rfl (rp_lssT rfl rfl rfl (by first | assumption | omega | (dsimp only; omega))) ?_) | (refine AL.rpy rfl rfl rfl (rp_lssF rfl rfl rfl (by first | assumption | omega | (dsimp only; omega))) ?_) | (refine AL.rpy rfl rfl rfl (rp_lss rfl rfl rfl) ?_))
   refine AL.rp rfl rfl (rp_pick rfl rfl rfl) ?_
   refine AL.nil ?_
   try simp only [thenS, S.put]
   refine AW.condF rfl ?_
   refine AW.skip ?_
   try simp only [thenS]
   refine AW.seq ?_
   refine AW.region ?_
   refine AL.rp rfl rfl (rp_move rfl rfl) ?_
   (first | (refine AL.rp rfl rfl (rp_field_ref Try.underlying24 rfl rfl rfl inf3 (by decide) rfl) ?_) | (refine AL.rp rfl rfl (rp_field_ad Try.underlying24 rfl rfl rfl inf3 (by decide) rfl) ?_))
   (first | (refine AL.rd rfl rfl (rd_load_ref Try.underlying3 rfl rfl rfl rfl rfl rfl) ?_) | (refine AL.rd rfl rfl (rd_load_ad Try.underlying3 rfl rfl rfl rfl) ?_) | (refine AL.rd rfl rfl (rd_load_map Try.underlying3 rfl rfl rfl rfl rfl rfl (by assumption)) ?_))
   (first | (refine AL.rp rfl rfl (rp_index_map Try.underlying29 inf3 rfl rfl rfl rfl (by assumption)) ?_) | (refine AL.rp rfl rfl (rp_index_own Try.underlying29 inf3 rfl rfl rfl rfl (by first | assumption | omega)) ?_) | (refine AL.rp rfl rfl (rd_index_sl Try.underlying29 inf3 rfl rfl rfl rfl (by assumption)) ?_) | (refine AL.rp rfl rfl (rp_index_own Try.underlying29 inf3 rfl rfl rfl (by omega) (by omega)) ?_))
   (first | (refine AL.rd rfl rfl (rd_load_ref Try.underlying3 rfl rfl rfl rfl rfl rfl) ?_) | (refine AL.rd rfl rfl (rd_load_ad Try.underlying3 rfl rfl rfl rfl) ?_) | (refine AL.rd rfl rfl (rd_load_map Try.underlying3 rfl rfl rfl rfl rfl rfl (by assumption)) ?_))
   refine AL.rp rfl rfl (rp_assign rfl rfl) ?_
   refine AL.rp rfl rfl (rp_assign rfl rfl) ?_
   refine AL.nil ?_
   try simp only [thenS, S.put]
   refine AW.ret ?_
   exact ⟨[_, _], ⟨rfl, rfl, trivial⟩, rfl, by simp [tupOf, V.pure, V.has, V.hasL]⟩
 ·have hcon := resI_ne (am_Ends0 m) he
  have hV : leastV m = 0 := by unfold leastV; rw [if_pos he]
  obtain ⟨e, hee⟩ : ∃ e, disE (enD m) m = e := ⟨_, rfl⟩
  rw [hee] at he hcon
  rw [hV, hee]
  have hinf := am_infE e he
  obtain ⟨st, sts⟩ := m
  refine Fn.intro (n := 26) ⟨Try.func68, rfl, rfl, rfl, rfl⟩ (by simp [V.pure, V.has, V.hasL]) (by simp) fun w0 out => ?_
  refine AW.seq ?_
  refine AW.region ?_
  refine AL.sm rfl (sm_box 1 rfl rfl rfl (by first | rfl | simp [S.clean, S.put, S.newObj, S.forget, V.has, V.hasL, junkIf, setL, V.cs, hasL_i, hasL_b, hasL_s, hasL_n, hasL_rep, hasL_flat, hasL_append, -List.map_set]) rfl) ?_
  refine AL.rp rfl rfl (rp_assign rfl rfl) ?_
  refine AL.rp rfl rfl (rp_assign rfl rfl) ?_
  refine AL.nil ?_
  try simp only [thenS, S.put, S.newObj, setL, V.cs, List.length_cons, List.length_nil, List.take_succ_cons, List.take_zero, List.drop_succ_cons, List.drop_zero, List.drop_nil, List.nil_append, List.cons_append, List.append_nil, Nat.zero_add, Nat.reduceAdd, List.map_cons, List.map_nil, List.set_cons_zero, List.set_cons_succ, enum]
  refine AW.seq ?_
  refine AW.region ?_
  (first | (refine AL.rd rfl rfl (rd_loads_ref Try.underlying24 rfl inf24 rfl rfl rfl rfl rfl rfl) ?_) | (refine AL.rd rfl rfl (rd_loads_ad Try.underlying24 rfl inf24 rfl rfl rfl rfl) ?_))
  refine AL.call (post := ?pc17) rfl (sm_call (args := [_]) ?hc17 ⟨Try.func65, rfl, rfl, rfl, rfl⟩ rfl rfl rfl rfl) ?_
  case hc17 => exact hcon
  rintro _ rfl -
  try dsimp only
  refine AL.rp rfl rfl (rp_move rfl rfl) ?_
  refine AL.rp rfl rfl (rp_extract rfl rfl rfl) ?_
  refine AL.rp rfl rfl (rp_extract rfl rfl rfl) ?_
  refine AL.rp rfl rfl (rp_assign rfl rfl) ?_
  refine AL.rp rfl rfl (rp_assign rfl rfl) ?_
  refine AL.nil ?_
  try simp only [thenS, S.put, S.newObj, setL, V.cs, List.length_cons, List.length_nil, List.take_succ_cons, List.take_zero, List.drop_succ_cons, List.drop_zero, List.drop_nil, List.nil_append, List.cons_append, List.append_nil, Nat.zero_add, Nat.reduceAdd, List.map_cons, List.map_nil, List.set_cons_zero, List.set_cons_succ]
  refine AW.seq ?_
  refine AW.seq ?_
  refine AW.region ?_
  refine AL.rp rfl rfl (rp_move rfl rfl) ?_
  (first | (refine AL.rp rfl rfl (rp_neqT rfl rfl rfl (by first | assumption | omega | (dsimp only; omega))) ?_) | (refine AL.rp rfl rfl (rp_neqF rfl rfl rfl (by first | assumption | omega | (dsimp only; omega))) ?_) | (refine AL.rp rfl rfl (rp_neq rfl rfl rfl) ?_))
  refine AL.rp rfl rfl (rp_move rfl rfl) ?_
  (first | (refine AL.no rfl rfl rfl rfl ?_) | (refine AL.rpy rfl rfl rfl (rp_field_ref Try.underlying24 rfl rfl rfl inf3 (by decide) rfl) ?_) | (refine AL.rpy rfl rfl rfl (rp_field_ad Try.underlying24 rfl rfl rfl inf3 (by decide) rfl) ?_))
  (first | (refine AL.no rfl rfl rfl rfl ?_) | (refine AL.rdy rfl rfl rfl (rd_load_ref Try.underlying3 rfl rfl rfl rfl rfl rfl) ?_) | (refine AL.rdy rfl rfl rfl (rd_load_ad Try.underlying3 rfl rfl rfl rfl) ?_) | (refine AL.rdy rfl rfl rfl (rd_load_map Try.underlying3 rfl rfl rfl rfl rfl rfl (by assumption)) ?_))
  (first | (refine AL.no rfl rfl rfl rfl ?_) | (refine AL.rpy rfl rfl rfl (rp_lssT rfl rfl rfl (by first | assumption | omega | (dsimp only; omega))) ?_) | (refine AL.rpy rfl rfl rfl (rp_lssF rfl rfl rfl (by first | assumption | omega | (dsimp only; omega))) ?_) | (refine AL.rpy rfl rfl rfl (rp_lss rfl rfl rfl) ?_))
  refine AL.rp rfl rfl (rp_pick rfl rfl rfl) ?_
  refine AL.nil ?_
  try simp only [thenS, S.put]
  refine AW.condT rfl ?_
  refine AW.seq ?_
  refine AW.region ?_
  refine AL.rp rfl rfl (rp_move rfl rfl) ?_
  refine AL.call (post := ?pc18) rfl (sm_call (args := [_]) ?hc18 ⟨Try.func104, rfl, rfl, rfl, rfl⟩ rfl rfl rfl rfl) ?_
  case hc18 => exact hinf
  rintro _ rfl -
  try dsimp only
  refine AL.rp rfl rfl (rp_move rfl rfl) ?_
  refine AL.rp rfl rfl (rp_assign rfl rfl) ?_
  refine AL.rp rfl rfl (rp_assign rfl rfl) ?_
  refine AL.nil ?_
  try simp only [thenS, S.put, S.newObj, setL, V.cs, List.length_cons, List.length_nil, List.take_succ_cons, List.take_zero, List.drop_succ_cons, List.drop_zero, List.drop_nil, List.nil_append, List.cons_append, List.append_nil, Nat.zero_add, Nat.reduceAdd, List.map_cons, List.map_nil, List.set_cons_zero, List.set_cons_succ]
  refine AW.ret ?_
  exact ⟨[_, _], ⟨rfl, rfl, trivial⟩, rfl, by simp [tupOf, V.pure, V.has, V.hasL]⟩
end Go.Proofs.Ytnpbdcjfealoeaa
